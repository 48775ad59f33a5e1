/- Part 6 of a proof by an ideal interpreter of the code: its definitions and lemmas. Conditions: none. -/
import Derived.KernelRfl
import Derived.Test.YtfheodjhbaaalaaA5
set_option linter.all false
set_option linter.unusedVariables false
set_option linter.unusedSimpArgs false
namespace Go.Idl
open Go
def lessR (c row:List Int):List Int:=(List.range c.length).map fun j=>c.getD j 0 - row.getD j 0
theorem lessR_len (c row:List Int):(lessR c row).length=c.length:=by simp [lessR]
theorem fr_less (T0 T1 T9 T11:IV) (pre rest:List (List IV)) (c row:List Int) (cc:Bool) (i:Nat) (hi:pre.length=i) (hcl:c.length≤5) (hrl:row.length=c.length) (hc:∀ x ∈ c,-100≤x∧x≤100) (hr:∀ x ∈ row,0≤x∧x≤1)
    (a0:List (List Int)) (c0:Bool) (h0:T0=TL a0 c0) (a1:List Int) (c1:Bool) (h1:T1=L a1 c1) (a9:List (List (List Int))) (h9:T9=.own 1 (cub a9)) (h11:T11=I i) :
    ∀ (m j:Nat),j+m=c.length →
    wp tb (.loop z584l20) { T:=[(0,T0),(1,T1),(2,L c cc),(9,T9),(10,.own 1 (pre++[.own 1 (ints row)]::rest)),(11,T11),(12,O ((lessR c row).take j)),(13,I j)],loc:=[],M:=[] }
      (fun ex st=>ex=.exit 4∧st={ T:=[(0,T0),(1,T1),(2,L c cc),(9,T9),(10,.own 1 (pre++[.own 1 (ints row)]::rest)),(11,T11),(12,O (lessR c row)),(13,I c.length),(61,Bo false)],loc:=[],M:=[] }):=by
  subst h0 h1 h9 h11
  intro m
  induction m with
  | zero =>
    intro j hj
    have h3:j=c.length:=hj
    subst h3
    have:(lessR c row).take c.length=lessR c row:=List.take_of_length_le (by rw [lessR_len];omega)
    rw [this]
    refine wp_loop ?_
    repeat (first|apply wp_as|apply wp_ss|refine wr (by simp;with_reducible rfl) ?_|refine wq (by simp;with_reducible rfl) ?_|refine wt (by simpa) ?_|refine wf (by simpa) ?_|refine xt (by simpa) ?_|refine xf (by simpa) ?_|apply wp_bs|apply wp_b|refine wp_sr ?_|refine wp_sx ?_|refine wp_ret' ?_|refine wp_skip' ?_|refine wp_exit' ?_)
    first | done | exact ⟨rfl,rfl⟩
  | succ m ih =>
    intro j hj
    have hjc:j < c.length:=by omega
    have hjr:j < row.length:=by omega
    have hjl:j < (lessR c row).length:=by rw [lessR_len];exact hjc
    have w2:IntKind.i64.wrap ((j:Int)+1)=((j+1:Nat):Int):=wrapS (by omega)
    have hx:=hc _ (List.getElem_mem hjc)
    have hy:=hr _ (List.getElem_mem hjr)
    have w3:IntKind.i64.wrap (c[j] - row[j])=c[j] - row[j]:=wrap64 (by omega) (by omega)
    have hg:=ih (j+1) (by omega)
    have hv:(lessR c row)[j]=c[j] - row[j]:=by simp [lessR,List.getD_eq_getElem?_getD,List.getElem?_eq_getElem hjc,List.getElem?_eq_getElem hjr]
    rw [List.take_succ_eq_append_getElem hjl,hv] at hg
    have hA:((lessR c row).take j).length=j:=by simp [lessR_len];omega
    generalize (lessR c row).take j=A at *
    have hT:A.take j=A:=List.take_of_length_le (by omega)
    have hj5:j+1≤274877906944:=by omega
    have hpi:(pre++[IV.own 1 (ints row)]::rest)[i]? = some [IV.own 1 (ints row)]:=by rw [List.getElem?_append_right (by omega),← hi];simp
    have hil:i < (pre++[IV.own 1 (ints row)]::rest).length:=by simp;omega
    have hpg:(pre++[IV.own 1 (ints row)]::rest)[i]=[IV.own 1 (ints row)]:=by
      have:=List.getElem?_eq_getElem hil
      rw [hpi] at this;exact (Option.some.inj this).symm
    generalize pre++[IV.own 1 (ints row)]::rest=P at *
    refine wp_loop ?_
    repeat (first|apply wp_as|apply wp_ss|refine wr (by simp [hjc,hjr,w2,w3,hA,hT,hj5,hpi,hil,hpg];with_reducible rfl) ?_|refine wq (by simp [hjc,hjr,w2,w3,hA,hT,hj5,hpi,hil,hpg];with_reducible rfl) ?_|refine wt (by simpa [hjc,hjr,w2,w3,hA,hT,hj5,hpi,hil,hpg]) ?_|refine wf (by simpa [hjc,hjr,w2,w3,hA,hT,hj5,hpi,hil,hpg]) ?_|refine xt (by simpa [hjc,hjr,w2,w3,hA,hT,hj5,hpi,hil,hpg]) ?_|refine xf (by simpa [hjc,hjr,w2,w3,hA,hT,hj5,hpi,hil,hpg]) ?_|apply wp_bs|apply wp_b|refine wp_sr ?_|refine wp_sx ?_|refine wp_ret' ?_|refine wp_skip' ?_|refine wp_exit' ?_)
    exact hg
end Go.Idl
namespace Go.Idl
open Go
def fiS (r:List Int):Nat→List (List Int)→List Int→List (List (List Int))
  | 0,d,c=>if c.sum=0 then [d] else []
  | m+1,d,c=>(rwS c.length [] (r.getD d.length 0).toNat).flatMap fun row=>if least (lessR c row)=0 then fiS r m (d++[row]) (lessR c row) else []
theorem flatMap_le {α β:Type} {f:α→List β} {b:Nat}:∀ (l:List α),(∀ x ∈ l,(f x).length≤b)→(l.flatMap f).length≤l.length * b
  | [],_=>by simp
  | x::l,h=>by
    have h1:=flatMap_le l fun y hy=>h y (by simp [hy])
    have h2:=h x (by simp)
    rw [List.flatMap_cons,List.length_append,List.length_cons,Nat.add_mul,Nat.one_mul];omega
theorem fiS_len (r:List Int):∀ m d c,c.length≤5→(fiS r m d c).length≤32 ^ m
  | 0,d,c,_=>by rw [fiS];split <;> simp
  | m+1,d,c,hc=>by
    have h1:=flatMap_le (f:=fun row=>if least (lessR c row)=0 then fiS r m (d++[row]) (lessR c row) else []) (b:=32 ^ m) (rwS c.length [] (r.getD d.length 0).toNat) fun x _=>by
      split
      · exact fiS_len r m _ _ (by rw [lessR_len];exact hc)
      · simp
    have h2:=rwS_len c.length [] (r.getD d.length 0).toNat
    have h3:2 ^ c.length≤2 ^ 5:=Nat.pow_le_pow_right (by omega) hc
    have h4:(rwS c.length [] (r.getD d.length 0).toNat).length * 32 ^ m≤32 * 32 ^ m:=Nat.mul_le_mul_right _ (by omega)
    rw [fiS,Nat.pow_succ,Nat.mul_comm]
    exact Nat.le_trans h1 h4
theorem rwS_row:∀ m pre k,∀ row ∈ rwS m pre k,row.length=pre.length+m∧((∀ x ∈ pre,0≤x∧x≤1)→∀ x ∈ row,0≤x∧x≤1)
  | 0,pre,k,row,h=>by
    rw [rwS] at h
    split at h
    · simp at h;subst h;exact ⟨by simp,fun q=>q⟩
    · simp at h
  | m+1,pre,k,row,h=>by
    rw [rwS,List.mem_append] at h
    have key:∀ (v:Int) (k':Nat),0≤v∧v≤1→row ∈ rwS m (pre++[v]) k'→row.length=pre.length+(m+1)∧((∀ x ∈ pre,0≤x∧x≤1)→∀ x ∈ row,0≤x∧x≤1):=by
      intro v k' hv hm
      obtain ⟨h1,h2⟩:=rwS_row m (pre++[v]) k' row hm
      refine ⟨by simp at h1;omega,fun q=>h2 fun x hx=>?_⟩
      rcases List.mem_append.1 hx with hx | hx
      · exact q x hx
      · simp at hx;subst hx;exact hv
    rcases h with h | h
    · split at h
      · exact key 1 _ (by omega) h
      · simp at h
    · exact key 0 _ (by omega) h
theorem cub_app2 (a b:List (List (List Int))):cub a++cub b=cub (a++b):=by simp [cub]
@[simp] theorem cub_allD (t:List (List (List Int))):((cub t).all fun x=>x.all IV.isData)=true:=by
  induction t with
  | nil=>rfl
  | cons x xs ih=>simp only [cub,List.map_cons,List.all_cons] at *;rw [ih];rfl
@[simp] theorem tab_allD (t:List (List Int)):((tab t).all fun x=>x.all IV.isData)=true:=by
  induction t with
  | nil=>rfl
  | cons x xs ih=>simp only [tab,List.map_cons,List.all_cons] at *;rw [ih];rfl
@[simp] theorem frz_tab1 (t:List (List Int)) (row:List Int):frzLL (tab t++[[IV.own 1 (ints row)]])=tab (t++[row]):=by
  have hi:frzLL (ints row)=ints row:=by
    induction row with
    | nil=>rfl
    | cons y ys ih=>simp only [ints,List.map_cons,frzLL,frzL,frzV] at *;rw [ih]
  induction t with
  | nil=>simp only [tab,List.map_nil,List.nil_append,List.map_cons,frzLL,frzL,frzV,hi]
  | cons x xs ih=>simp only [tab,List.map_cons,List.cons_append,frzLL,frzL,frzV] at *;rw [ih]
theorem fr_copy (d:List (List Int)) (c:Bool) (hd:d.length≤5) (hr:∀ x ∈ d,x.length≤1000):∀ (m i:Nat),i+m=d.length →
    wp tb (.loop z584l8) { T:=[(0,TL d c),(7,OT (d.take i)),(8,I i)],loc:=[],M:=[] }
      (fun ex st=>ex=.exit 0∧st={ T:=[(0,TL d c),(7,OT d),(8,I d.length),(26,Bo false)],loc:=[],M:=[] }):=by
  intro m
  induction m with
  | zero =>
    intro i hi
    have h3:i=d.length:=hi
    subst h3
    rw [List.take_of_length_le (Nat.le_refl _)]
    refine wp_loop ?_
    repeat (first|apply wp_as|apply wp_ss|refine wr (by simp;with_reducible rfl) ?_|refine wq (by simp;with_reducible rfl) ?_|refine wt (by simpa) ?_|refine wf (by simpa) ?_|refine xt (by simpa) ?_|refine xf (by simpa) ?_|apply wp_bs|apply wp_b|refine wp_sr ?_|refine wp_sx ?_|refine wp_ret' ?_|refine wp_skip' ?_|refine wp_exit' ?_)
    first | done | exact ⟨rfl,rfl⟩
  | succ m ih =>
    intro i hi
    have hi2:i < d.length:=by omega
    have w2:IntKind.i64.wrap ((i:Int)+1)=((i+1:Nat):Int):=wrapS (by omega)
    have hg:=ih (i+1) (by omega)
    rw [List.take_succ_eq_append_getElem hi2] at hg
    have hA:(d.take i).length=i:=by simp;omega
    generalize d.take i=A at *
    have hT:A.take i=A:=List.take_of_length_le (by omega)
    have hrl:=hr _ (List.getElem_mem hi2)
    have hrt:d[i].take d[i].length=d[i]:=List.take_of_length_le (by omega)
    have h5:d[i].length≤274877906944:=by omega
    have hi5:i+1≤274877906944:=by omega
    refine wp_loop ?_
    repeat (first|apply wp_as|apply wp_ss|refine wr (by simp [hi2,w2,hA,hT,hrt,h5,hi5];with_reducible rfl) ?_|refine wq (by simp [hi2,w2,hA,hT,hrt,h5,hi5];with_reducible rfl) ?_|refine wt (by simpa [hi2,w2,hA,hT,hrt,h5,hi5]) ?_|refine wf (by simpa [hi2,w2,hA,hT,hrt,h5,hi5]) ?_|refine xt (by simpa [hi2,w2,hA,hT,hrt,h5,hi5]) ?_|refine xf (by simpa [hi2,w2,hA,hT,hrt,h5,hi5]) ?_|apply wp_bs|apply wp_b|refine wp_sr ?_|refine wp_sx ?_|refine wp_ret' ?_|refine wp_skip' ?_|refine wp_exit' ?_)
    exact hg
end Go.Idl
namespace Go.Idl
open Go
set_option maxHeartbeats 4000000 in
theorem ev_fillRows (r:List Int) (hr5:r.length≤5) (hrb:∀ x ∈ r,0≤x∧x≤1000):∀ (m:Nat) (d:List (List Int)) (c:List Int) (c0 c1 c2:Bool),d.length+m=r.length→(∀ x ∈ d,x.length≤1000)→c.length≤5→(∀ x ∈ c,0≤x∧x≤100) →
    Ev tb zl584 [] [TL d c0,L r c1,L c c2] [] ⟨.own 1 (cub (fiS r m d c)),[],[],[]⟩:=by
  intro m
  induction m with
  | zero =>
    intro d c c0 c1 c2 hd hdl hcl hcb
    have hd':d.length=r.length:=hd
    have hlil:Lil c:=fun x hx=>by have:=hcb x hx;omega
    have e1:=ev_lim (ev_spec_sum c c2 (hlil.small (by omega)))
    rw [fiS]
    by_cases h:c.sum=0
    · rw [h] at e1
      have hcp:=fr_copy d c0 (by omega) hdl d.length 0 (by omega)
      rw [List.take_zero,show ((0:Nat):Int)=0 from rfl] at hcp
      rw [if_pos h]
      refine call_of_wp zt584 rfl ?_
      repeat (first|apply wp_as|apply wp_ss|refine wr (by simp [hd',e1];with_reducible rfl) ?_|refine wq (by simp [hd',e1];with_reducible rfl) ?_|refine wt (by simpa [hd',e1]) ?_|refine wf (by simpa [hd',e1]) ?_|refine xt (by simpa [hd',e1]) ?_|refine xf (by simpa [hd',e1]) ?_|apply wp_bs|apply wp_b|refine wp_sr ?_|refine wp_sx ?_|refine wp_ret' ?_|refine wp_skip' ?_|refine wp_exit' ?_)
      refine wp_imp hcp ?_
      rintro ex st ⟨rfl,rfl⟩
      simp only [if_true]
      repeat (first|apply wp_as|apply wp_ss|refine wr (by simp;with_reducible rfl) ?_|refine wq (by simp;with_reducible rfl) ?_|refine wt (by simpa) ?_|refine wf (by simpa) ?_|refine xt (by simpa) ?_|refine xf (by simpa) ?_|apply wp_bs|apply wp_b|refine wp_sr ?_|refine wp_sx ?_|refine wp_ret' ?_|refine wp_skip' ?_|refine wp_exit' ?_)
      simp [zi584,cub]
    · rw [if_neg h]
      refine call_of_wp zt584 rfl ?_
      repeat (first|apply wp_as|apply wp_ss|refine wr (by simp [hd',e1,h];with_reducible rfl) ?_|refine wq (by simp [hd',e1,h];with_reducible rfl) ?_|refine wt (by simpa [hd',e1,h]) ?_|refine wf (by simpa [hd',e1,h]) ?_|refine xt (by simpa [hd',e1,h]) ?_|refine xf (by simpa [hd',e1,h]) ?_|apply wp_bs|apply wp_b|refine wp_sr ?_|refine wp_sx ?_|refine wp_ret' ?_|refine wp_skip' ?_|refine wp_exit' ?_)
      simp [zi584,cub]
  | succ m ih =>
    intro d c c0 c1 c2 hd hdl hcl hcb
    have hne:¬ d.length=r.length:=by omega
    have hne':¬ (d.length:Int)=(r.length:Int):=by omega
    have hdr:d.length < r.length:=by omega
    have hrx:=hrb _ (List.getElem_mem hdr)
    have hg:r.getD d.length 0=r[d.length]:=by simp [List.getD_eq_getElem?_getD,List.getElem?_eq_getElem hdr]
    have e1:=ev_lim (ev_rowsOf c.length hcl c.length [] r[d.length].toNat false (by simp) (by omega))
    rw [Int.toNat_of_nonneg hrx.1] at e1
    simp only [L,ints_nil] at e1
    have hrows:=rwS_row c.length [] r[d.length].toNat
    have hrn:=rwS_len c.length [] r[d.length].toNat
    have h32:2 ^ c.length≤2 ^ 5:=Nat.pow_le_pow_right (by omega) hcl
    have hm5:32 ^ m≤33554432:=Nat.pow_le_pow_right (n:=32) (j:=5) (by decide) (by omega)
    have htd:(tab d).take d.length=tab d:=List.take_of_length_le (by simp)
    have hd1:d.length+1≤274877906944:=by omega
    have hd2:d.length≤274877906944:=by omega
    rw [fiS,hg]
    generalize rwS c.length [] r[d.length].toNat=rows at *
    have loop:∀ (n i:Nat) (pre:List (List IV)) (acc:List (List (List Int))),i+n=rows.length→pre.length=i→acc.length≤i * 33554432 →
        wp tb (.loop z584l24) { T:=[(0,TL d c0),(1,L r c1),(2,L c c2),(9,.own 1 (cub acc)),(10,.own 1 (pre++oab (rows.drop i))),(11,I i)],loc:=[],M:=[] }
          (fun ex st=>ex=.exit 2∧∃ P,st={ T:=[(0,TL d c0),(1,L r c1),(2,L c c2),(9,.own 1 (cub (acc++(rows.drop i).flatMap fun row=>if least (lessR c row)=0 then fiS r m (d++[row]) (lessR c row) else []))),(10,.own 1 P),(11,I rows.length),(54,Bo false)],loc:=[],M:=[] }):=by
      intro n
      induction n with
      | zero =>
        intro i pre acc hi hp ha
        have h3:i=rows.length:=hi
        subst h3
        rw [List.drop_length,List.flatMap_nil,List.append_nil,oab_nil,List.append_nil]
        refine wp_loop ?_
        repeat (first|apply wp_as|apply wp_ss|refine wr (by simp [hp];with_reducible rfl) ?_|refine wq (by simp [hp];with_reducible rfl) ?_|refine wt (by simpa [hp]) ?_|refine wf (by simpa [hp]) ?_|refine xt (by simpa [hp]) ?_|refine xf (by simpa [hp]) ?_|apply wp_bs|apply wp_b|refine wp_sr ?_|refine wp_sx ?_|refine wp_ret' ?_|refine wp_skip' ?_|refine wp_exit' ?_)
        exact ⟨rfl,pre,rfl⟩
      | succ n ihn =>
        intro i pre acc hi hp ha
        have hi2:i < rows.length:=by omega
        have w2:IntKind.i64.wrap ((i:Int)+1)=((i+1:Nat):Int):=wrapS (by omega)
        have hrow:=hrows _ (List.getElem_mem hi2)
        have hdp:rows.drop i=rows[i]::rows.drop (i+1):=List.drop_eq_getElem_cons hi2
        have hl1:rows[i].length=c.length:=by have:=hrow.1;simpa using this
        have h01:=hrow.2 (by simp)
        rw [hdp,List.flatMap_cons]
        have hob:oab (rows[i]::rows.drop (i+1))=[IV.own 1 (ints rows[i])]::oab (rows.drop (i+1)):=rfl
        rw [hob]
        have hrest:(oab (rows.drop (i+1))).length=rows.length - (i+1):=by simp
        have hyes:=fun acc h=>ihn (i+1) (pre++[[IV.un]]) acc (by omega) (by simp [hp]) h
        have hno:=fun acc h=>ihn (i+1) (pre++[[IV.own 1 (ints rows[i])]]) acc (by omega) (by simp [hp]) h
        simp only [List.append_assoc,List.singleton_append] at hyes hno
        generalize rows[i]=row at *
        generalize oab (rows.drop (i+1))=rest at *
        have hless:=fr_less _ _ _ _ pre rest c row c2 i hp hcl hl1 (fun x hx=>by have:=hcb x hx;omega) h01 d c0 rfl r c1 rfl acc rfl rfl c.length 0 (by omega)
        rw [List.take_zero,show ((0:Nat):Int)=0 from rfl] at hless
        have hll:=lessR_len c row
        have e2:=fun cc=>ev_lim (ev_least (lessR c row) cc (by omega))
        have hPl:(pre++[IV.own 1 (ints row)]::rest).length=rows.length:=by simp;omega
        have hpi:(pre++[IV.own 1 (ints row)]::rest)[i]? = some [IV.own 1 (ints row)]:=by rw [List.getElem?_append_right (by omega),← hp];simp
        have hil:i < (pre++[IV.own 1 (ints row)]::rest).length:=by omega
        have hpg:(pre++[IV.own 1 (ints row)]::rest)[i]=[IV.own 1 (ints row)]:=by
          have:=List.getElem?_eq_getElem hil
          rw [hpi] at this;exact (Option.some.inj this).symm
        have hset:(pre++[IV.own 1 (ints row)]::rest).set i [IV.un]=pre++[IV.un]::rest:=by rw [List.set_append_right _ _ (by omega),← hp];simp
        by_cases h:least (lessR c row)=0
        · rw [if_pos h]
          have hnn:=(least_zero _).1 h
          have hub:∀ x ∈ lessR c row,x≤100:=fun x hx=>by
            simp only [lessR,List.mem_map,List.mem_range] at hx
            obtain ⟨j,hj,rfl⟩:=hx
            have hjr:j < row.length:=by omega
            have a1:=hcb _ (List.getElem_mem hj)
            have a2:=h01 _ (List.getElem_mem hjr)
            simp only [List.getD_eq_getElem?_getD,List.getElem?_eq_getElem hj,List.getElem?_eq_getElem hjr,Option.getD_some]
            omega
          have e3:=fun a b e=>ev_lim (ih (d++[row]) (lessR c row) a b e (by simp;omega) (fun x hx=>by
            rcases List.mem_append.1 hx with hx | hx
            · exact hdl x hx
            · simp at hx;subst hx;omega) (by omega) (fun x hx=>⟨hnn x hx,hub x hx⟩))
          have hfl:=fiS_len r m (d++[row]) (lessR c row) (by omega)
          have hac:acc.length≤32 * 33554432:=Nat.le_trans ha (Nat.mul_le_mul_right _ (by omega))
          have hb1:acc.length+(fiS r m (d++[row]) (lessR c row)).length≤274877906944:=by omega
          have hb2:(fiS r m (d++[row]) (lessR c row)).length≤274877906944:=by omega
          have hgo:=hyes (acc++fiS r m (d++[row]) (lessR c row)) (by rw [List.length_append];omega)
          simp only [List.append_assoc] at hgo
          generalize fiS r m (d++[row]) (lessR c row)=N at *
          generalize lessR c row=lr at *
          generalize pre++[IV.own 1 (ints row)]::rest=P at *
          refine wp_loop ?_
          repeat (first|apply wp_as|apply wp_ss|refine wr (by simp [hPl,hi2];with_reducible rfl) ?_|refine wq (by simp [hPl,hi2];with_reducible rfl) ?_|refine wt (by simpa [hPl,hi2]) ?_|refine wf (by simpa [hPl,hi2]) ?_|refine xt (by simpa [hPl,hi2]) ?_|refine xf (by simpa [hPl,hi2]) ?_|apply wp_bs|apply wp_b|refine wp_sr ?_|refine wp_sx ?_|refine wp_ret' ?_|refine wp_skip' ?_|refine wp_exit' ?_)
          refine wp_imp hless ?_
          rintro ex st ⟨rfl,rfl⟩
          simp only [if_true]
          repeat (first|apply wp_as|apply wp_ss|refine wr (by simp [e2,h];with_reducible rfl) ?_|refine wq (by simp [e2,h];with_reducible rfl) ?_|refine wt (by simpa [e2,h]) ?_|refine wf (by simpa [e2,h]) ?_|refine xt (by simpa [e2,h]) ?_|refine xf (by simpa [e2,h]) ?_|apply wp_bs|apply wp_b|refine wp_sr ?_|refine wp_sx ?_|refine wp_ret' ?_|refine wp_skip' ?_|refine wp_exit' ?_)
          refine wp_ra (by simp [hpi,hil,hpg,hset,htd,hd1,hd2,e3,hb1,hb2,cub_app2,hPl,hi2];with_reducible rfl) (by simp;with_reducible rfl) ?_ ?_
          · intro p hp
            simp only [List.mem_cons,List.not_mem_nil,or_false] at hp
            rcases hp with rfl | rfl | rfl | rfl | rfl
            · exact ⟨_,by simp [hpi,hil,hpg,hset,htd,hd1,hd2,e3,hb1,hb2,cub_app2,hPl,hi2];with_reducible rfl,by simp⟩
            · exact ⟨_,by simp [hpi,hil,hpg,hset,htd,hd1,hd2,e3,hb1,hb2,cub_app2,hPl,hi2];with_reducible rfl,by simp⟩
            · exact ⟨_,by simp [hpi,hil,hpg,hset,htd,hd1,hd2,e3,hb1,hb2,cub_app2,hPl,hi2];with_reducible rfl,by simp⟩
            · exact ⟨_,by simp [hpi,hil,hpg,hset,htd,hd1,hd2,e3,hb1,hb2,cub_app2,hPl,hi2];with_reducible rfl,by simp⟩
            · exact ⟨_,by simp [hpi,hil,hpg,hset,htd,hd1,hd2,e3,hb1,hb2,cub_app2,hPl,hi2];with_reducible rfl,by simp⟩
          repeat (first|apply wp_as|apply wp_ss|refine wr (by simp [w2];with_reducible rfl) ?_|refine wq (by simp [w2];with_reducible rfl) ?_|refine wt (by simpa [w2]) ?_|refine wf (by simpa [w2]) ?_|refine xt (by simpa [w2]) ?_|refine xf (by simpa [w2]) ?_|apply wp_bs|apply wp_b|refine wp_sr ?_|refine wp_sx ?_|refine wp_ret' ?_|refine wp_skip' ?_|refine wp_exit' ?_)
          exact hgo
        · rw [if_neg h,List.nil_append]
          have hgo:=hno acc (Nat.le_trans ha (Nat.mul_le_mul_right _ (Nat.le_succ i)))
          generalize lessR c row=lr at *
          generalize pre++[IV.own 1 (ints row)]::rest=P at *
          refine wp_loop ?_
          repeat (first|apply wp_as|apply wp_ss|refine wr (by simp [hPl,hi2];with_reducible rfl) ?_|refine wq (by simp [hPl,hi2];with_reducible rfl) ?_|refine wt (by simpa [hPl,hi2]) ?_|refine wf (by simpa [hPl,hi2]) ?_|refine xt (by simpa [hPl,hi2]) ?_|refine xf (by simpa [hPl,hi2]) ?_|apply wp_bs|apply wp_b|refine wp_sr ?_|refine wp_sx ?_|refine wp_ret' ?_|refine wp_skip' ?_|refine wp_exit' ?_)
          refine wp_imp hless ?_
          rintro ex st ⟨rfl,rfl⟩
          simp only [if_true]
          repeat (first|apply wp_as|apply wp_ss|refine wr (by simp [e2,h,w2];with_reducible rfl) ?_|refine wq (by simp [e2,h,w2];with_reducible rfl) ?_|refine wt (by simpa [e2,h,w2]) ?_|refine wf (by simpa [e2,h,w2]) ?_|refine xt (by simpa [e2,h,w2]) ?_|refine xf (by simpa [e2,h,w2]) ?_|apply wp_bs|apply wp_b|refine wp_sr ?_|refine wp_sx ?_|refine wp_ret' ?_|refine wp_skip' ?_|refine wp_exit' ?_)
          exact hgo
    have hl0:=loop rows.length 0 [] [] (by omega) rfl (by simp)
    rw [List.drop_zero,List.nil_append,List.nil_append,show ((0:Nat):Int)=0 from rfl,show cub []=[] from rfl] at hl0
    generalize (rows.flatMap fun row=>if least (lessR c row)=0 then fiS r m (d++[row]) (lessR c row) else [])=F at *
    refine call_of_wp zt584 rfl ?_
    repeat (first|apply wp_as|apply wp_ss|refine wr (by simp [hne,hne',hdr,e1];with_reducible rfl) ?_|refine wq (by simp [hne,hne',hdr,e1];with_reducible rfl) ?_|refine wt (by simpa [hne,hne',hdr,e1]) ?_|refine wf (by simpa [hne,hne',hdr,e1]) ?_|refine xt (by simpa [hne,hne',hdr,e1]) ?_|refine xf (by simpa [hne,hne',hdr,e1]) ?_|apply wp_bs|apply wp_b|refine wp_sr ?_|refine wp_sx ?_|refine wp_ret' ?_|refine wp_skip' ?_|refine wp_exit' ?_)
    refine wp_imp hl0 ?_
    rintro ex st ⟨rfl,P,rfl⟩
    simp only [if_true]
    repeat (first|apply wp_as|apply wp_ss|refine wr (by simp;with_reducible rfl) ?_|refine wq (by simp;with_reducible rfl) ?_|refine wt (by simpa) ?_|refine wf (by simpa) ?_|refine xt (by simpa) ?_|refine xf (by simpa) ?_|apply wp_bs|apply wp_b|refine wp_sr ?_|refine wp_sx ?_|refine wp_ret' ?_|refine wp_skip' ?_|refine wp_exit' ?_)
    simp [zi584]
end Go.Idl
namespace Go.Idl
open Go
theorem tr_in (h w:Nat) (t:List (List Int)) (c:Bool) (ht:MM h w t) (hh:h≤5) (u:List (List Int)) (k:Nat) (hk:k < w) :
    ∀ (m i:Nat),i+m=h →
    wp tb (.loop z385l9) { T:=[(0,TL t c),(3,OT u),(4,I k),(5,O (mapR i fun i=>g2 t i k)),(6,I i)],loc:=[],M:=[] }
      (fun ex st=>ex=.exit 2∧st={ T:=[(0,TL t c),(3,OT u),(4,I k),(5,O (mapR h fun i=>g2 t i k)),(6,I h),(20,Bo false)],loc:=[],M:=[] }):=by
  intro m
  induction m with
  | zero =>
    intro i hi
    have h3:i=h:=hi
    subst h3
    have hl:=ht.1
    refine wp_loop ?_
    repeat (first|apply wp_as|apply wp_ss|refine wr (by simp [hl];with_reducible rfl) ?_|refine wq (by simp [hl];with_reducible rfl) ?_|refine wt (by simpa [hl]) ?_|refine wf (by simpa [hl]) ?_|refine xt (by simpa [hl]) ?_|refine xf (by simpa [hl]) ?_|apply wp_bs|apply wp_b|refine wp_sr ?_|refine wp_sx ?_|refine wp_ret' ?_|refine wp_skip' ?_|refine wp_exit' ?_)
    exact ⟨rfl,rfl⟩
  | succ m ih =>
    intro i hi
    have hih:i < h:=by omega
    have hl:=ht.1
    have hit:i < t.length:=by omega
    have hkr:k < t[i].length:=by have:=(ht.2 _ (List.getElem_mem hit)).1;omega
    have w2:IntKind.i64.wrap ((i:Int)+1)=((i+1:Nat):Int):=wrapS (by omega)
    have hm:(mapR (i+1) fun i=>g2 t i k)=(mapR i fun i=>g2 t i k)++[t[i][k]]:=by simp [mapR,List.range_succ,g2_eq hit hkr]
    have hg:=ih (i+1) (by omega)
    rw [hm] at hg
    have hlt:(mapR i fun i=>g2 t i k).length≤274877906943:=by simp [mapR];omega
    generalize (mapR i fun i=>g2 t i k)=o at *
    have hot:o.take o.length=o:=List.take_of_length_le (by omega)
    refine wp_loop ?_
    repeat (first|apply wp_as|apply wp_ss|refine wr (by simp [hih,hit,hl,hkr,w2,hlt,hot];with_reducible rfl) ?_|refine wq (by simp [hih,hit,hl,hkr,w2,hlt,hot];with_reducible rfl) ?_|refine wt (by simpa [hih,hit,hl,hkr,w2,hlt,hot]) ?_|refine wf (by simpa [hih,hit,hl,hkr,w2,hlt,hot]) ?_|refine xt (by simpa [hih,hit,hl,hkr,w2,hlt,hot]) ?_|refine xf (by simpa [hih,hit,hl,hkr,w2,hlt,hot]) ?_|apply wp_bs|apply wp_b|refine wp_sr ?_|refine wp_sx ?_|refine wp_ret' ?_|refine wp_skip' ?_|refine wp_exit' ?_)
    exact hg
theorem ev_transpose (h w:Nat) (t:List (List Int)) (c:Bool) (ht:MM h w t) (h0:0 < h) (hh:h≤5) (hw:w≤5) :
    ∃ u,MM w h u∧limF tb zl385 [] [TL t c] []=some ⟨OT u,[],[],[]⟩:=by
  have hl:=ht.1
  have h0t:0 < t.length:=by omega
  have hr0:=(ht.2 _ (List.getElem_mem h0t)).1
  have loop:∀ (m k:Nat),k+m=w→wp tb (.loop z385l12) { T:=[(0,TL t c),(3,OT (tabF k h fun k i=>g2 t i k)),(4,I k)],loc:=[],M:=[] }
      (fun ex st=>ex=.exit 0∧st={ T:=[(0,TL t c),(3,OT (tabF w h fun k i=>g2 t i k)),(4,I w),(13,Bo false)],loc:=[],M:=[] }):=by
    intro m
    induction m with
    | zero =>
      intro k hk
      have h3:k=w:=hk
      subst h3
      refine wp_loop ?_
      repeat (first|apply wp_as|apply wp_ss|refine wr (by simp [h0,h0t,hr0];with_reducible rfl) ?_|refine wq (by simp [h0,h0t,hr0];with_reducible rfl) ?_|refine wt (by simpa [h0,h0t,hr0]) ?_|refine wf (by simpa [h0,h0t,hr0]) ?_|refine xt (by simpa [h0,h0t,hr0]) ?_|refine xf (by simpa [h0,h0t,hr0]) ?_|apply wp_bs|apply wp_b|refine wp_sr ?_|refine wp_sx ?_|refine wp_ret' ?_|refine wp_skip' ?_|refine wp_exit' ?_)
      exact ⟨rfl,rfl⟩
    | succ m ih =>
      intro k hk
      have hkw:k < w:=by omega
      have w2:IntKind.i64.wrap ((k:Int)+1)=((k+1:Nat):Int):=wrapS (by omega)
      have hm:(tabF (k+1) h fun k i=>g2 t i k)=(tabF k h fun k i=>g2 t i k)++[mapR h fun i=>g2 t i k]:=by simp [tabF,List.range_succ]
      have hg:=ih (k+1) (by omega)
      rw [hm] at hg
      have hlt:(tabF k h fun k i=>g2 t i k).length≤274877906943:=by simp [tabF];omega
      generalize (tabF k h fun k i=>g2 t i k)=o at *
      have hot:o.take o.length=o:=List.take_of_length_le (by omega)
      have hin:=tr_in h w t c ht hh o k hkw h 0 (by omega)
      rw [show (mapR 0 fun i=>g2 t i k)=[] from rfl] at hin
      have hql:(mapR h fun i=>g2 t i k).length=h:=by simp [mapR]
      have hrt:(mapR h fun i=>g2 t i k).take h=mapR h fun i=>g2 t i k:=List.take_of_length_le (by omega)
      generalize (mapR h fun i=>g2 t i k)=q at *
      rw [show ((0:Nat):Int)=0 from rfl] at hin
      refine wp_loop ?_
      repeat (first|apply wp_as|apply wp_ss|refine wr (by simp [h0,h0t,hr0,hkw];with_reducible rfl) ?_|refine wq (by simp [h0,h0t,hr0,hkw];with_reducible rfl) ?_|refine wt (by simpa [h0,h0t,hr0,hkw]) ?_|refine wf (by simpa [h0,h0t,hr0,hkw]) ?_|refine xt (by simpa [h0,h0t,hr0,hkw]) ?_|refine xf (by simpa [h0,h0t,hr0,hkw]) ?_|apply wp_bs|apply wp_b|refine wp_sr ?_|refine wp_sx ?_|refine wp_ret' ?_|refine wp_skip' ?_|refine wp_exit' ?_)
      refine wp_imp hin ?_
      rintro ex st ⟨rfl,rfl⟩
      simp only [if_true]
      repeat (first|apply wp_as|apply wp_ss|refine wr (by simp [w2,hlt,hot,hql,hrt];with_reducible rfl) ?_|refine wq (by simp [w2,hlt,hot,hql,hrt];with_reducible rfl) ?_|refine wt (by simpa [w2,hlt,hot,hql,hrt]) ?_|refine wf (by simpa [w2,hlt,hot,hql,hrt]) ?_|refine xt (by simpa [w2,hlt,hot,hql,hrt]) ?_|refine xf (by simpa [w2,hlt,hot,hql,hrt]) ?_|apply wp_bs|apply wp_b|refine wp_sr ?_|refine wp_sx ?_|refine wp_ret' ?_|refine wp_skip' ?_|refine wp_exit' ?_)
      exact hg
  refine ⟨tabF w h fun k i=>g2 t i k,⟨by simp [tabF],fun r hr=>?_⟩,ev_lim ?_⟩
  · simp only [tabF,List.mem_map,List.mem_range] at hr
    obtain ⟨k,hk,rfl⟩:=hr
    refine ⟨by simp [mapR],fun x hx=>?_⟩
    simp only [mapR,List.mem_map,List.mem_range] at hx
    obtain ⟨i,hi,rfl⟩:=hx
    have hit:i < t.length:=by omega
    have hri:=ht.2 _ (List.getElem_mem hit)
    have hkr:k < t[i].length:=by omega
    rw [g2_eq hit hkr]
    exact hri.2 _ (List.getElem_mem hkr)
  · refine call_of_wp zt385 rfl ?_
    repeat (first|apply wp_as|apply wp_ss|refine wr (by simp;with_reducible rfl) ?_|refine wq (by simp;with_reducible rfl) ?_|refine wt (by simpa) ?_|refine wf (by simpa) ?_|refine xt (by simpa) ?_|refine xf (by simpa) ?_|apply wp_bs|apply wp_b|refine wp_sr ?_|refine wp_sx ?_|refine wp_ret' ?_|refine wp_skip' ?_|refine wp_exit' ?_)
    have:=loop w 0 (by omega)
    simp only [tabF,List.range_zero,List.map_nil] at this
    rw [show ((0:Nat):Int)=0 from rfl] at this
    refine wp_imp this ?_
    rintro ex st ⟨rfl,rfl⟩
    simp only [if_true]
    repeat (first|apply wp_as|apply wp_ss|refine wr (by simp;with_reducible rfl) ?_|refine wq (by simp;with_reducible rfl) ?_|refine wt (by simpa) ?_|refine wf (by simpa) ?_|refine xt (by simpa) ?_|refine xf (by simpa) ?_|apply wp_bs|apply wp_b|refine wp_sr ?_|refine wp_sx ?_|refine wp_ret' ?_|refine wp_skip' ?_|refine wp_exit' ?_)
    simp [zi385,tabF]
    rw [List.take_of_length_le (by simp)]
end Go.Idl
namespace Go.Idl
open Go
theorem MM.few {h w:Nat} {t:List (List Int)} (ht:MM h w t) (hw:w≤5):∀ r ∈ t,Few r:=fun r hr=>⟨by have:=(ht.2 r hr).1;omega,fun x hx=>by have:=(ht.2 r hr).2 x hx;omega⟩
theorem MM.sums {h w:Nat} {t:List (List Int)} (ht:MM h w t) (hw:w≤5):∀ x ∈ t.map List.sum,0≤x∧x≤5:=by
  intro x hx
  obtain ⟨r,hr,rfl⟩:=List.mem_map.1 hx
  have h1:=ht.2 r hr
  have:=sum01 r h1.2
  omega
set_option maxHeartbeats 4000000 in
theorem ev_margins (code:List Int) (c:Bool) (hc:CodeOk code) (cnt:Nat) (hn:cnt≤50000) (bs:Boxes) (Ms:List Boxes) :
    ∃ (a b:List Int) (k:Nat),a.length≤5∧b.length≤10 ∧
      limF tb zl361 [] [.bptr 0 0 0,I 5] ((R code c cnt::bs)::Ms)=some ⟨.tup [O a,O b],[],(R code c k::bs)::Ms,[]⟩:=by
  suffices h:∃ r,(∃ (a b:List Int) (k:Nat),a.length≤5∧b.length≤10∧r=⟨.tup [O a,O b],[],(R code c k::bs)::Ms,[]⟩)∧Ev tb zl361 [] [.bptr 0 0 0,I 5] ((R code c cnt::bs)::Ms) r by
    obtain ⟨r,⟨a,b,k,h1,h2,rfl⟩,h⟩:=h
    exact ⟨a,b,k,h1,h2,ev_lim h⟩
  refine call_ex zt361 rfl ?_
  obtain ⟨v1,k1,hv1,hk1,p1⟩:=pick' code c hc cnt (by omega) 5 (by omega) bs (Ms++[[]])
  obtain ⟨v2,k2,hv2,hk2,p2⟩:=pick' code c hc k1 (by omega) 5 (by omega) bs (Ms++[[]])
  have hv1:=hv1 (by omega)
  have hv2:=hv2 (by omega)
  obtain ⟨h,hh⟩:∃ h,h=1+v1:=⟨_,rfl⟩
  obtain ⟨w,hw⟩:∃ w,w=1+v2:=⟨_,rfl⟩
  have w1:IntKind.i64.wrap (1+(v1:Int))=(h:Int):=by rw [wrap64 (by omega) (by omega)];omega
  have w2:IntKind.i64.wrap (1+(v2:Int))=(w:Int):=by rw [wrap64 (by omega) (by omega)];omega
  obtain ⟨t,k3,ht,hk3,p3⟩:=ev_aMatrix code c hc k2 (by omega) h w (by omega) (by omega) bs (Ms++[[]])
  have e1:=ev_lim (ev_rowSums t false (by have:=ht.1;omega) (ht.few (by omega)))
  obtain ⟨u,hu,e2⟩:=ev_transpose h w t false ht (by omega) (by omega) (by omega)
  have e3:=ev_lim (ev_rowSums u false (by have:=hu.1;omega) (hu.few (by omega)))
  have sa:=ht.sums (by omega)
  have sb:=hu.sums (by omega)
  have la:(t.map List.sum).length=h:=by simp [ht.1]
  have lb:(u.map List.sum).length=w:=by simp [hu.1]
  have hto:t.take t.length=t:=List.take_of_length_le (by omega)
  obtain ⟨v3,k4,hv3,hk4,p4⟩:=pick' code c hc k3 (by omega) 3 (by omega) bs (Ms++[[]])
  generalize t.map List.sum=a at *
  generalize u.map List.sum=b at *
  have fin1:∀ (z:IV) (a b:List Int) (k:Nat),k≤60000→0 < a.length→a.length≤5→b.length≤5 →
      wp tb (.seq z361r9 (.seq (.block 0 (.seq z361r10 (.cond (.t 68) z361r11 (.seq z361r12 (.cond (.t 75) z361r13 .skip))))) (.seq z361r14 .ret)))
        { T:=(0,.bptr 0 0 0)::(7,O a)::(8,O b)::[],loc:=[],M:=(R code c k::bs)::Ms }
        (fun ex st=>(ex=.normal ∨ ex=.ret)∧∃ r,(∃ (a b:List Int) (k:Nat),a.length≤5∧b.length≤10∧r=⟨.tup [O a,O b],[],(R code c k::bs)::Ms,[]⟩)∧finish zi361 [] st=some r):=by
    intro z a b k hk ha hal hbl
    obtain ⟨v,k5,hv,hk5,q1⟩:=pick' code c hc k (by omega) 30 (by omega) bs (Ms++[[]])
    have hat:a.take a.length=a:=List.take_of_length_le (by omega)
    have hbt:b.take b.length=b:=List.take_of_length_le (by omega)
    by_cases v0:v=0
    · subst v0
      rw [show ((0:Nat):Int)=0 from rfl] at q1
      obtain ⟨x,k6,hx,hk6,q2⟩:=one2 code c hc k5 (by omega) [-1,6] (by simp) bs (Ms++[[]])
      repeat (first|apply wp_as|apply wp_ss|refine wr (by simp [q1,q2,ha];with_reducible rfl) ?_|refine wq (by simp [q1,q2,ha];with_reducible rfl) ?_|refine wt (by simpa [q1,q2,ha]) ?_|refine wf (by simpa [q1,q2,ha]) ?_|refine xt (by simpa [q1,q2,ha]) ?_|refine xf (by simpa [q1,q2,ha]) ?_|apply wp_bs|apply wp_b|refine wp_sr ?_|refine wp_sx ?_|refine wp_ret' ?_|refine wp_skip' ?_|refine wp_exit' ?_)
      exact ⟨.inr rfl,_,⟨a.set 0 x,b,k6,by simpa using hal,by omega,rfl⟩,by simp [zi361,hat,hbt];rw [List.take_of_length_le (by simp)]⟩
    by_cases v1:v=1
    · subst v1
      rw [show ((1:Nat):Int)=1 from rfl] at q1
      repeat (first|apply wp_as|apply wp_ss|refine wr (by simp [q1,hbt,show b.length≤274877906939 by omega];with_reducible rfl) ?_|refine wq (by simp [q1,hbt,show b.length≤274877906939 by omega];with_reducible rfl) ?_|refine wt (by simpa [q1,hbt,show b.length≤274877906939 by omega]) ?_|refine wf (by simpa [q1,hbt,show b.length≤274877906939 by omega]) ?_|refine xt (by simpa [q1,hbt,show b.length≤274877906939 by omega]) ?_|refine xf (by simpa [q1,hbt,show b.length≤274877906939 by omega]) ?_|apply wp_bs|apply wp_b|refine wp_sr ?_|refine wp_sx ?_|refine wp_ret' ?_|refine wp_skip' ?_|refine wp_exit' ?_)
      exact ⟨.inr rfl,_,⟨a,b++[0,0,0,0,0],k5,by omega,by simp;omega,rfl⟩,by simp [zi361,hat,hbt];rw [List.take_of_length_le (by simp)]⟩
    have v1':¬ (v:Int)=1:=by omega
    repeat (first|apply wp_as|apply wp_ss|refine wr (by simp [q1,v0,v1'];with_reducible rfl) ?_|refine wq (by simp [q1,v0,v1'];with_reducible rfl) ?_|refine wt (by simpa [q1,v0,v1']) ?_|refine wf (by simpa [q1,v0,v1']) ?_|refine xt (by simpa [q1,v0,v1']) ?_|refine xf (by simpa [q1,v0,v1']) ?_|apply wp_bs|apply wp_b|refine wp_sr ?_|refine wp_sx ?_|refine wp_ret' ?_|refine wp_skip' ?_|refine wp_exit' ?_)
    exact ⟨.inr rfl,_,⟨a,b,k5,by omega,by omega,rfl⟩,by simp [zi361,hat,hbt]⟩
  have fin2:∀ (z:IV) (a b:List Int) (k:Nat),k≤60000→0 < a.length→a.length≤5→b.length≤5 →
      wp tb (.seq z361r9 (.seq (.block 0 (.seq z361r10 (.cond (.t 68) z361r11 (.seq z361r12 (.cond (.t 75) z361r13 .skip))))) (.seq z361r14 .ret)))
        { T:=(0,.bptr 0 0 0)::(7,O a)::(8,O b)::[(27,z)],loc:=[],M:=(R code c k::bs)::Ms }
        (fun ex st=>(ex=.normal ∨ ex=.ret)∧∃ r,(∃ (a b:List Int) (k:Nat),a.length≤5∧b.length≤10∧r=⟨.tup [O a,O b],[],(R code c k::bs)::Ms,[]⟩)∧finish zi361 [] st=some r):=by
    intro z a b k hk ha hal hbl
    obtain ⟨v,k5,hv,hk5,q1⟩:=pick' code c hc k (by omega) 30 (by omega) bs (Ms++[[]])
    have hat:a.take a.length=a:=List.take_of_length_le (by omega)
    have hbt:b.take b.length=b:=List.take_of_length_le (by omega)
    by_cases v0:v=0
    · subst v0
      rw [show ((0:Nat):Int)=0 from rfl] at q1
      obtain ⟨x,k6,hx,hk6,q2⟩:=one2 code c hc k5 (by omega) [-1,6] (by simp) bs (Ms++[[]])
      repeat (first|apply wp_as|apply wp_ss|refine wr (by simp [q1,q2,ha];with_reducible rfl) ?_|refine wq (by simp [q1,q2,ha];with_reducible rfl) ?_|refine wt (by simpa [q1,q2,ha]) ?_|refine wf (by simpa [q1,q2,ha]) ?_|refine xt (by simpa [q1,q2,ha]) ?_|refine xf (by simpa [q1,q2,ha]) ?_|apply wp_bs|apply wp_b|refine wp_sr ?_|refine wp_sx ?_|refine wp_ret' ?_|refine wp_skip' ?_|refine wp_exit' ?_)
      exact ⟨.inr rfl,_,⟨a.set 0 x,b,k6,by simpa using hal,by omega,rfl⟩,by simp [zi361,hat,hbt];rw [List.take_of_length_le (by simp)]⟩
    by_cases v1:v=1
    · subst v1
      rw [show ((1:Nat):Int)=1 from rfl] at q1
      repeat (first|apply wp_as|apply wp_ss|refine wr (by simp [q1,hbt,show b.length≤274877906939 by omega];with_reducible rfl) ?_|refine wq (by simp [q1,hbt,show b.length≤274877906939 by omega];with_reducible rfl) ?_|refine wt (by simpa [q1,hbt,show b.length≤274877906939 by omega]) ?_|refine wf (by simpa [q1,hbt,show b.length≤274877906939 by omega]) ?_|refine xt (by simpa [q1,hbt,show b.length≤274877906939 by omega]) ?_|refine xf (by simpa [q1,hbt,show b.length≤274877906939 by omega]) ?_|apply wp_bs|apply wp_b|refine wp_sr ?_|refine wp_sx ?_|refine wp_ret' ?_|refine wp_skip' ?_|refine wp_exit' ?_)
      exact ⟨.inr rfl,_,⟨a,b++[0,0,0,0,0],k5,by omega,by simp;omega,rfl⟩,by simp [zi361,hat,hbt];rw [List.take_of_length_le (by simp)]⟩
    have v1':¬ (v:Int)=1:=by omega
    repeat (first|apply wp_as|apply wp_ss|refine wr (by simp [q1,v0,v1'];with_reducible rfl) ?_|refine wq (by simp [q1,v0,v1'];with_reducible rfl) ?_|refine wt (by simpa [q1,v0,v1']) ?_|refine wf (by simpa [q1,v0,v1']) ?_|refine xt (by simpa [q1,v0,v1']) ?_|refine xf (by simpa [q1,v0,v1']) ?_|apply wp_bs|apply wp_b|refine wp_sr ?_|refine wp_sx ?_|refine wp_ret' ?_|refine wp_skip' ?_|refine wp_exit' ?_)
    exact ⟨.inr rfl,_,⟨a,b,k5,by omega,by omega,rfl⟩,by simp [zi361,hat,hbt]⟩
  by_cases v30:v3=0
  rotate_left
  · repeat (first | apply wp_as | apply wp_ss | refine wr (by simp [p1,p2,w1,w2,p3,hto,e1,e2,e3,p4,v30];with_reducible rfl) ?_ | refine wq (by simp [p1,p2,w1,w2,p3,hto,e1,e2,e3,p4,v30];with_reducible rfl) ?_ | refine wt (by simpa [p1,p2,w1,w2,p3,hto,e1,e2,e3,p4,v30]) ?_ | refine wf (by simpa [p1,p2,w1,w2,p3,hto,e1,e2,e3,p4,v30]) ?_ | refine xt (by simpa [p1,p2,w1,w2,p3,hto,e1,e2,e3,p4,v30]) ?_ | refine xf (by simpa [p1,p2,w1,w2,p3,hto,e1,e2,e3,p4,v30]) ?_ | apply wp_bs | apply wp_b | refine wp_sr ?_ | refine wp_sx ?_ | refine wp_ret' ?_ | refine wp_skip' ?_ | refine wp_exit' ?_)
    exact fin2 _ a b k4 (by omega) (by omega) (by omega) (by omega)
  subst v30
  rw [show ((0:Nat):Int)=0 from rfl] at p4
  obtain ⟨v5,k5,hv5,hk5,p5⟩:=pick' code c hc k4 (by omega) (a.length:Int) (by omega) bs (Ms++[[]])
  have hv5:=hv5 (by omega)
  have hv5':v5 < a.length:=by omega
  obtain ⟨x,k6,hx,hk6,p6⟩:=one2 code c hc k5 (by omega) [1,-1,2] (by simp) bs (Ms++[[]])
  have hx:-1≤x∧x≤2:=by simp at hx;omega
  have ba:=sa _ (List.getElem_mem hv5')
  have w3:IntKind.i64.wrap (a[v5]+x)=a[v5]+x:=wrap64 (by omega) (by omega)
  obtain ⟨v7,k7,hv7,hk7,p7⟩:=pick' code c hc k6 (by omega) (b.length:Int) (by omega) bs (Ms++[[]])
  have hv7:=hv7 (by omega)
  have hv7':v7 < b.length:=by omega
  obtain ⟨y,k8,hy,hk8,p8⟩:=one2 code c hc k7 (by omega) [1,-1,2] (by simp) bs (Ms++[[]])
  have hy:-1≤y∧y≤2:=by simp at hy;omega
  have bb:=sb _ (List.getElem_mem hv7')
  have w4:IntKind.i64.wrap (b[v7]+y)=b[v7]+y:=wrap64 (by omega) (by omega)
  repeat (first|apply wp_as|apply wp_ss|refine wr (by simp [p1,p2,w1,w2,p3,hto,e1,e2,e3,p4,p5];with_reducible rfl) ?_|refine wq (by simp [p1,p2,w1,w2,p3,hto,e1,e2,e3,p4,p5];with_reducible rfl) ?_|refine wt (by simpa [p1,p2,w1,w2,p3,hto,e1,e2,e3,p4,p5]) ?_|refine wf (by simpa [p1,p2,w1,w2,p3,hto,e1,e2,e3,p4,p5]) ?_|refine xt (by simpa [p1,p2,w1,w2,p3,hto,e1,e2,e3,p4,p5]) ?_|refine xf (by simpa [p1,p2,w1,w2,p3,hto,e1,e2,e3,p4,p5]) ?_|apply wp_bs|apply wp_b|refine wp_sr ?_|refine wp_sx ?_|refine wp_ret' ?_|refine wp_skip' ?_|refine wp_exit' ?_)
  refine wp_ra (by simp [hv5',p6,w3];with_reducible rfl) (by simp;with_reducible rfl) ?_ ?_
  · intro p hp
    simp only [List.mem_cons,List.not_mem_nil,or_false] at hp
    rcases hp with rfl | rfl
    · exact ⟨_,by simp [hv5',p6,w3];with_reducible rfl,by simp⟩
    · exact ⟨_,by simp [hv5',p6,w3];with_reducible rfl,by simp⟩
  repeat (first|apply wp_as|apply wp_ss|refine wr (by simp [p7];with_reducible rfl) ?_|refine wq (by simp [p7];with_reducible rfl) ?_|refine wt (by simpa [p7]) ?_|refine wf (by simpa [p7]) ?_|refine xt (by simpa [p7]) ?_|refine xf (by simpa [p7]) ?_|apply wp_bs|apply wp_b|refine wp_sr ?_|refine wp_sx ?_|refine wp_ret' ?_|refine wp_skip' ?_|refine wp_exit' ?_)
  refine wp_ra (by simp [hv7',p8,w4];with_reducible rfl) (by simp;with_reducible rfl) ?_ ?_
  · intro p hp
    simp only [List.mem_cons,List.not_mem_nil,or_false] at hp
    rcases hp with rfl | rfl
    · exact ⟨_,by simp [hv7',p8,w4];with_reducible rfl,by simp⟩
    · exact ⟨_,by simp [hv7',p8,w4];with_reducible rfl,by simp⟩
  repeat (first|apply wp_as|apply wp_ss|refine wr (by simp;with_reducible rfl) ?_|refine wq (by simp;with_reducible rfl) ?_|refine wt (by simpa) ?_|refine wf (by simpa) ?_|refine xt (by simpa) ?_|refine xf (by simpa) ?_|apply wp_bs|apply wp_b|refine wp_sr ?_|refine wp_sx ?_|refine wp_ret' ?_|refine wp_skip' ?_|refine wp_exit' ?_)
  exact fin1 .un _ _ k8 (by omega) (by simp;omega) (by simp;omega) (by simp;omega)
end Go.Idl
namespace Go.Idl
open Go
theorem ev_spec_AllMatrices (r c:List Int) (k l:Bool) (hv:vMar r c=true) (h4:r.length≤4) (h5:c.length≤4) :
    Ev tb zl556 [] [L r k,L c l] [] ⟨.own 1 (cub (fiS r r.length [] c)),[],[],[]⟩:=by
  obtain ⟨q1,q2,q3,q4⟩:=vMar_iff hv
  have e1:=ev_lim (ev_validMargins r c k l (by omega) (by omega))
  rw [hv] at e1
  have e2:=fun a b e=>ev_lim (ev_fillRows r (by omega) (fun x hx=>by have:=q3 x hx;omega) r.length [] c a b e (by simp) (by simp) (by omega) (fun x hx=>by have:=q4 x hx;omega))
  simp only [TL,show tab []=[] from rfl] at e2
  have n1:¬ ((4:Int) < (r.length:Int)):=by omega
  have n2:¬ ((4:Int) < (c.length:Int)):=by omega
  have n3:¬ (4 < r.length):=by omega
  have n4:¬ (4 < c.length):=by omega
  generalize fiS r r.length [] c=G at *
  refine call_of_wp zt556 rfl ?_
  repeat (first|apply wp_as|apply wp_ss|refine wr (by simp [e1,e2,n1,n2,n3,n4];with_reducible rfl) ?_|refine wq (by simp [e1,e2,n1,n2,n3,n4];with_reducible rfl) ?_|refine wt (by simpa [e1,e2,n1,n2,n3,n4]) ?_|refine wf (by simpa [e1,e2,n1,n2,n3,n4]) ?_|refine xt (by simpa [e1,e2,n1,n2,n3,n4]) ?_|refine xf (by simpa [e1,e2,n1,n2,n3,n4]) ?_|apply wp_bs|apply wp_b|refine wp_sr ?_|refine wp_sx ?_|refine wp_ret' ?_|refine wp_skip' ?_|refine wp_exit' ?_)
  simp [zi556]
theorem ev_spec_AllMatrices_no (r c:List Int) (k l:Bool) (hr:r.length≤1000) (hc:c.length≤1000) (h:¬ (vMar r c=true∧r.length≤4∧c.length≤4)) :
    Ev tb zl556 [] [L r k,L c l] [] ⟨Z,[],[],[]⟩:=by
  have e1:=ev_lim (ev_validMargins r c k l (by omega) (by omega))
  cases hv:vMar r c with
  | false =>
    rw [hv] at e1
    refine call_of_wp zt556 rfl ?_
    repeat (first|apply wp_as|apply wp_ss|refine wr (by simp [e1];with_reducible rfl) ?_|refine wq (by simp [e1];with_reducible rfl) ?_|refine wt (by simpa [e1]) ?_|refine wf (by simpa [e1]) ?_|refine xt (by simpa [e1]) ?_|refine xf (by simpa [e1]) ?_|apply wp_bs|apply wp_b|refine wp_sr ?_|refine wp_sx ?_|refine wp_ret' ?_|refine wp_skip' ?_|refine wp_exit' ?_)
    simp [zi556]
  | true =>
    rw [hv] at e1
    have h':¬ (r.length≤4∧c.length≤4):=fun q=>h ⟨hv,q⟩
    by_cases q:r.length≤4
    · have n1:¬ ((4:Int) < (r.length:Int)):=by omega
      have n2:((4:Int) < (c.length:Int)):=by omega
      have n3:¬ (4 < r.length):=by omega
      have n4:(4 < c.length):=by omega
      refine call_of_wp zt556 rfl ?_
      repeat (first|apply wp_as|apply wp_ss|refine wr (by simp [e1,n1,n2,n3,n4];with_reducible rfl) ?_|refine wq (by simp [e1,n1,n2,n3,n4];with_reducible rfl) ?_|refine wt (by simpa [e1,n1,n2,n3,n4]) ?_|refine wf (by simpa [e1,n1,n2,n3,n4]) ?_|refine xt (by simpa [e1,n1,n2,n3,n4]) ?_|refine xf (by simpa [e1,n1,n2,n3,n4]) ?_|apply wp_bs|apply wp_b|refine wp_sr ?_|refine wp_sx ?_|refine wp_ret' ?_|refine wp_skip' ?_|refine wp_exit' ?_)
      simp [zi556]
    · have n1:((4:Int) < (r.length:Int)):=by omega
      have n3:(4 < r.length):=by omega
      refine call_of_wp zt556 rfl ?_
      repeat (first|apply wp_as|apply wp_ss|refine wr (by simp [e1,n1,n3];with_reducible rfl) ?_|refine wq (by simp [e1,n1,n3];with_reducible rfl) ?_|refine wt (by simpa [e1,n1,n3]) ?_|refine wf (by simpa [e1,n1,n3]) ?_|refine xt (by simpa [e1,n1,n3]) ?_|refine xf (by simpa [e1,n1,n3]) ?_|apply wp_bs|apply wp_b|refine wp_sr ?_|refine wp_sx ?_|refine wp_ret' ?_|refine wp_skip' ?_|refine wp_exit' ?_)
      simp [zi556]
end Go.Idl
namespace Go.Idl
open Go
set_option maxHeartbeats 4000000 in
theorem ev_margins4 (code:List Int) (c:Bool) (hc:CodeOk code) (cnt:Nat) (hn:cnt≤50000) (bs:Boxes) (Ms:List Boxes) :
    ∃ (a b:List Int) (k:Nat),a.length≤5∧b.length≤10 ∧
      limF tb zl361 [] [.bptr 0 0 0,I 4] ((R code c cnt::bs)::Ms)=some ⟨.tup [O a,O b],[],(R code c k::bs)::Ms,[]⟩:=by
  suffices h:∃ r,(∃ (a b:List Int) (k:Nat),a.length≤5∧b.length≤10∧r=⟨.tup [O a,O b],[],(R code c k::bs)::Ms,[]⟩)∧Ev tb zl361 [] [.bptr 0 0 0,I 4] ((R code c cnt::bs)::Ms) r by
    obtain ⟨r,⟨a,b,k,h1,h2,rfl⟩,h⟩:=h
    exact ⟨a,b,k,h1,h2,ev_lim h⟩
  refine call_ex zt361 rfl ?_
  obtain ⟨v1,k1,hv1,hk1,p1⟩:=pick' code c hc cnt (by omega) 4 (by omega) bs (Ms++[[]])
  obtain ⟨v2,k2,hv2,hk2,p2⟩:=pick' code c hc k1 (by omega) 4 (by omega) bs (Ms++[[]])
  have hv1:=hv1 (by omega)
  have hv2:=hv2 (by omega)
  obtain ⟨h,hh⟩:∃ h,h=1+v1:=⟨_,rfl⟩
  obtain ⟨w,hw⟩:∃ w,w=1+v2:=⟨_,rfl⟩
  have w1:IntKind.i64.wrap (1+(v1:Int))=(h:Int):=by rw [wrap64 (by omega) (by omega)];omega
  have w2:IntKind.i64.wrap (1+(v2:Int))=(w:Int):=by rw [wrap64 (by omega) (by omega)];omega
  obtain ⟨t,k3,ht,hk3,p3⟩:=ev_aMatrix code c hc k2 (by omega) h w (by omega) (by omega) bs (Ms++[[]])
  have e1:=ev_lim (ev_rowSums t false (by have:=ht.1;omega) (ht.few (by omega)))
  obtain ⟨u,hu,e2⟩:=ev_transpose h w t false ht (by omega) (by omega) (by omega)
  have e3:=ev_lim (ev_rowSums u false (by have:=hu.1;omega) (hu.few (by omega)))
  have sa:=ht.sums (by omega)
  have sb:=hu.sums (by omega)
  have la:(t.map List.sum).length=h:=by simp [ht.1]
  have lb:(u.map List.sum).length=w:=by simp [hu.1]
  have hto:t.take t.length=t:=List.take_of_length_le (by omega)
  obtain ⟨v3,k4,hv3,hk4,p4⟩:=pick' code c hc k3 (by omega) 3 (by omega) bs (Ms++[[]])
  generalize t.map List.sum=a at *
  generalize u.map List.sum=b at *
  have fin1:∀ (z:IV) (a b:List Int) (k:Nat),k≤60000→0 < a.length→a.length≤5→b.length≤5 →
      wp tb (.seq z361r9 (.seq (.block 0 (.seq z361r10 (.cond (.t 68) z361r11 (.seq z361r12 (.cond (.t 75) z361r13 .skip))))) (.seq z361r14 .ret)))
        { T:=(0,.bptr 0 0 0)::(7,O a)::(8,O b)::[],loc:=[],M:=(R code c k::bs)::Ms }
        (fun ex st=>(ex=.normal ∨ ex=.ret)∧∃ r,(∃ (a b:List Int) (k:Nat),a.length≤5∧b.length≤10∧r=⟨.tup [O a,O b],[],(R code c k::bs)::Ms,[]⟩)∧finish zi361 [] st=some r):=by
    intro z a b k hk ha hal hbl
    obtain ⟨v,k5,hv,hk5,q1⟩:=pick' code c hc k (by omega) 30 (by omega) bs (Ms++[[]])
    have hat:a.take a.length=a:=List.take_of_length_le (by omega)
    have hbt:b.take b.length=b:=List.take_of_length_le (by omega)
    by_cases v0:v=0
    · subst v0
      rw [show ((0:Nat):Int)=0 from rfl] at q1
      obtain ⟨x,k6,hx,hk6,q2⟩:=one2 code c hc k5 (by omega) [-1,6] (by simp) bs (Ms++[[]])
      repeat (first|apply wp_as|apply wp_ss|refine wr (by simp [q1,q2,ha];with_reducible rfl) ?_|refine wq (by simp [q1,q2,ha];with_reducible rfl) ?_|refine wt (by simpa [q1,q2,ha]) ?_|refine wf (by simpa [q1,q2,ha]) ?_|refine xt (by simpa [q1,q2,ha]) ?_|refine xf (by simpa [q1,q2,ha]) ?_|apply wp_bs|apply wp_b|refine wp_sr ?_|refine wp_sx ?_|refine wp_ret' ?_|refine wp_skip' ?_|refine wp_exit' ?_)
      exact ⟨.inr rfl,_,⟨a.set 0 x,b,k6,by simpa using hal,by omega,rfl⟩,by simp [zi361,hat,hbt];rw [List.take_of_length_le (by simp)]⟩
    by_cases v1:v=1
    · subst v1
      rw [show ((1:Nat):Int)=1 from rfl] at q1
      repeat (first|apply wp_as|apply wp_ss|refine wr (by simp [q1,hbt,show b.length≤274877906939 by omega];with_reducible rfl) ?_|refine wq (by simp [q1,hbt,show b.length≤274877906939 by omega];with_reducible rfl) ?_|refine wt (by simpa [q1,hbt,show b.length≤274877906939 by omega]) ?_|refine wf (by simpa [q1,hbt,show b.length≤274877906939 by omega]) ?_|refine xt (by simpa [q1,hbt,show b.length≤274877906939 by omega]) ?_|refine xf (by simpa [q1,hbt,show b.length≤274877906939 by omega]) ?_|apply wp_bs|apply wp_b|refine wp_sr ?_|refine wp_sx ?_|refine wp_ret' ?_|refine wp_skip' ?_|refine wp_exit' ?_)
      exact ⟨.inr rfl,_,⟨a,b++[0,0,0,0,0],k5,by omega,by simp;omega,rfl⟩,by simp [zi361,hat,hbt];rw [List.take_of_length_le (by simp)]⟩
    have v1':¬ (v:Int)=1:=by omega
    repeat (first|apply wp_as|apply wp_ss|refine wr (by simp [q1,v0,v1'];with_reducible rfl) ?_|refine wq (by simp [q1,v0,v1'];with_reducible rfl) ?_|refine wt (by simpa [q1,v0,v1']) ?_|refine wf (by simpa [q1,v0,v1']) ?_|refine xt (by simpa [q1,v0,v1']) ?_|refine xf (by simpa [q1,v0,v1']) ?_|apply wp_bs|apply wp_b|refine wp_sr ?_|refine wp_sx ?_|refine wp_ret' ?_|refine wp_skip' ?_|refine wp_exit' ?_)
    exact ⟨.inr rfl,_,⟨a,b,k5,by omega,by omega,rfl⟩,by simp [zi361,hat,hbt]⟩
  have fin2:∀ (z:IV) (a b:List Int) (k:Nat),k≤60000→0 < a.length→a.length≤5→b.length≤5 →
      wp tb (.seq z361r9 (.seq (.block 0 (.seq z361r10 (.cond (.t 68) z361r11 (.seq z361r12 (.cond (.t 75) z361r13 .skip))))) (.seq z361r14 .ret)))
        { T:=(0,.bptr 0 0 0)::(7,O a)::(8,O b)::[(27,z)],loc:=[],M:=(R code c k::bs)::Ms }
        (fun ex st=>(ex=.normal ∨ ex=.ret)∧∃ r,(∃ (a b:List Int) (k:Nat),a.length≤5∧b.length≤10∧r=⟨.tup [O a,O b],[],(R code c k::bs)::Ms,[]⟩)∧finish zi361 [] st=some r):=by
    intro z a b k hk ha hal hbl
    obtain ⟨v,k5,hv,hk5,q1⟩:=pick' code c hc k (by omega) 30 (by omega) bs (Ms++[[]])
    have hat:a.take a.length=a:=List.take_of_length_le (by omega)
    have hbt:b.take b.length=b:=List.take_of_length_le (by omega)
    by_cases v0:v=0
    · subst v0
      rw [show ((0:Nat):Int)=0 from rfl] at q1
      obtain ⟨x,k6,hx,hk6,q2⟩:=one2 code c hc k5 (by omega) [-1,6] (by simp) bs (Ms++[[]])
      repeat (first|apply wp_as|apply wp_ss|refine wr (by simp [q1,q2,ha];with_reducible rfl) ?_|refine wq (by simp [q1,q2,ha];with_reducible rfl) ?_|refine wt (by simpa [q1,q2,ha]) ?_|refine wf (by simpa [q1,q2,ha]) ?_|refine xt (by simpa [q1,q2,ha]) ?_|refine xf (by simpa [q1,q2,ha]) ?_|apply wp_bs|apply wp_b|refine wp_sr ?_|refine wp_sx ?_|refine wp_ret' ?_|refine wp_skip' ?_|refine wp_exit' ?_)
      exact ⟨.inr rfl,_,⟨a.set 0 x,b,k6,by simpa using hal,by omega,rfl⟩,by simp [zi361,hat,hbt];rw [List.take_of_length_le (by simp)]⟩
    by_cases v1:v=1
    · subst v1
      rw [show ((1:Nat):Int)=1 from rfl] at q1
      repeat (first|apply wp_as|apply wp_ss|refine wr (by simp [q1,hbt,show b.length≤274877906939 by omega];with_reducible rfl) ?_|refine wq (by simp [q1,hbt,show b.length≤274877906939 by omega];with_reducible rfl) ?_|refine wt (by simpa [q1,hbt,show b.length≤274877906939 by omega]) ?_|refine wf (by simpa [q1,hbt,show b.length≤274877906939 by omega]) ?_|refine xt (by simpa [q1,hbt,show b.length≤274877906939 by omega]) ?_|refine xf (by simpa [q1,hbt,show b.length≤274877906939 by omega]) ?_|apply wp_bs|apply wp_b|refine wp_sr ?_|refine wp_sx ?_|refine wp_ret' ?_|refine wp_skip' ?_|refine wp_exit' ?_)
      exact ⟨.inr rfl,_,⟨a,b++[0,0,0,0,0],k5,by omega,by simp;omega,rfl⟩,by simp [zi361,hat,hbt];rw [List.take_of_length_le (by simp)]⟩
    have v1':¬ (v:Int)=1:=by omega
    repeat (first|apply wp_as|apply wp_ss|refine wr (by simp [q1,v0,v1'];with_reducible rfl) ?_|refine wq (by simp [q1,v0,v1'];with_reducible rfl) ?_|refine wt (by simpa [q1,v0,v1']) ?_|refine wf (by simpa [q1,v0,v1']) ?_|refine xt (by simpa [q1,v0,v1']) ?_|refine xf (by simpa [q1,v0,v1']) ?_|apply wp_bs|apply wp_b|refine wp_sr ?_|refine wp_sx ?_|refine wp_ret' ?_|refine wp_skip' ?_|refine wp_exit' ?_)
    exact ⟨.inr rfl,_,⟨a,b,k5,by omega,by omega,rfl⟩,by simp [zi361,hat,hbt]⟩
  by_cases v30:v3=0
  rotate_left
  · repeat (first | apply wp_as | apply wp_ss | refine wr (by simp [p1,p2,w1,w2,p3,hto,e1,e2,e3,p4,v30];with_reducible rfl) ?_ | refine wq (by simp [p1,p2,w1,w2,p3,hto,e1,e2,e3,p4,v30];with_reducible rfl) ?_ | refine wt (by simpa [p1,p2,w1,w2,p3,hto,e1,e2,e3,p4,v30]) ?_ | refine wf (by simpa [p1,p2,w1,w2,p3,hto,e1,e2,e3,p4,v30]) ?_ | refine xt (by simpa [p1,p2,w1,w2,p3,hto,e1,e2,e3,p4,v30]) ?_ | refine xf (by simpa [p1,p2,w1,w2,p3,hto,e1,e2,e3,p4,v30]) ?_ | apply wp_bs | apply wp_b | refine wp_sr ?_ | refine wp_sx ?_ | refine wp_ret' ?_ | refine wp_skip' ?_ | refine wp_exit' ?_)
    exact fin2 _ a b k4 (by omega) (by omega) (by omega) (by omega)
  subst v30
  rw [show ((0:Nat):Int)=0 from rfl] at p4
  obtain ⟨v5,k5,hv5,hk5,p5⟩:=pick' code c hc k4 (by omega) (a.length:Int) (by omega) bs (Ms++[[]])
  have hv5:=hv5 (by omega)
  have hv5':v5 < a.length:=by omega
  obtain ⟨x,k6,hx,hk6,p6⟩:=one2 code c hc k5 (by omega) [1,-1,2] (by simp) bs (Ms++[[]])
  have hx:-1≤x∧x≤2:=by simp at hx;omega
  have ba:=sa _ (List.getElem_mem hv5')
  have w3:IntKind.i64.wrap (a[v5]+x)=a[v5]+x:=wrap64 (by omega) (by omega)
  obtain ⟨v7,k7,hv7,hk7,p7⟩:=pick' code c hc k6 (by omega) (b.length:Int) (by omega) bs (Ms++[[]])
  have hv7:=hv7 (by omega)
  have hv7':v7 < b.length:=by omega
  obtain ⟨y,k8,hy,hk8,p8⟩:=one2 code c hc k7 (by omega) [1,-1,2] (by simp) bs (Ms++[[]])
  have hy:-1≤y∧y≤2:=by simp at hy;omega
  have bb:=sb _ (List.getElem_mem hv7')
  have w4:IntKind.i64.wrap (b[v7]+y)=b[v7]+y:=wrap64 (by omega) (by omega)
  repeat (first|apply wp_as|apply wp_ss|refine wr (by simp [p1,p2,w1,w2,p3,hto,e1,e2,e3,p4,p5];with_reducible rfl) ?_|refine wq (by simp [p1,p2,w1,w2,p3,hto,e1,e2,e3,p4,p5];with_reducible rfl) ?_|refine wt (by simpa [p1,p2,w1,w2,p3,hto,e1,e2,e3,p4,p5]) ?_|refine wf (by simpa [p1,p2,w1,w2,p3,hto,e1,e2,e3,p4,p5]) ?_|refine xt (by simpa [p1,p2,w1,w2,p3,hto,e1,e2,e3,p4,p5]) ?_|refine xf (by simpa [p1,p2,w1,w2,p3,hto,e1,e2,e3,p4,p5]) ?_|apply wp_bs|apply wp_b|refine wp_sr ?_|refine wp_sx ?_|refine wp_ret' ?_|refine wp_skip' ?_|refine wp_exit' ?_)
  refine wp_ra (by simp [hv5',p6,w3];with_reducible rfl) (by simp;with_reducible rfl) ?_ ?_
  · intro p hp
    simp only [List.mem_cons,List.not_mem_nil,or_false] at hp
    rcases hp with rfl | rfl
    · exact ⟨_,by simp [hv5',p6,w3];with_reducible rfl,by simp⟩
    · exact ⟨_,by simp [hv5',p6,w3];with_reducible rfl,by simp⟩
  repeat (first|apply wp_as|apply wp_ss|refine wr (by simp [p7];with_reducible rfl) ?_|refine wq (by simp [p7];with_reducible rfl) ?_|refine wt (by simpa [p7]) ?_|refine wf (by simpa [p7]) ?_|refine xt (by simpa [p7]) ?_|refine xf (by simpa [p7]) ?_|apply wp_bs|apply wp_b|refine wp_sr ?_|refine wp_sx ?_|refine wp_ret' ?_|refine wp_skip' ?_|refine wp_exit' ?_)
  refine wp_ra (by simp [hv7',p8,w4];with_reducible rfl) (by simp;with_reducible rfl) ?_ ?_
  · intro p hp
    simp only [List.mem_cons,List.not_mem_nil,or_false] at hp
    rcases hp with rfl | rfl
    · exact ⟨_,by simp [hv7',p8,w4];with_reducible rfl,by simp⟩
    · exact ⟨_,by simp [hv7',p8,w4];with_reducible rfl,by simp⟩
  repeat (first|apply wp_as|apply wp_ss|refine wr (by simp;with_reducible rfl) ?_|refine wq (by simp;with_reducible rfl) ?_|refine wt (by simpa) ?_|refine wf (by simpa) ?_|refine xt (by simpa) ?_|refine xf (by simpa) ?_|apply wp_bs|apply wp_b|refine wp_sr ?_|refine wp_sx ?_|refine wp_ret' ?_|refine wp_skip' ?_|refine wp_exit' ?_)
  exact fin1 .un _ _ k8 (by omega) (by simp;omega) (by simp;omega) (by simp;omega)
theorem ev_DrawAllMatrices (code:List Int) (c:Bool) (h:∀ x ∈ code,0≤x∧x≤255) (hl:code.length≤10000000) :
    ∃ a b:List Int,a.length≤5∧b.length≤10∧limF tb zl559 [] [.lst 1 (bytes code) c] []=some ⟨.tup [O a,O b],[],[],[]⟩:=by
  obtain ⟨c',e⟩:=ev_newReader code c [[]] (by omega)
  have e1:=ev_lim e
  obtain ⟨v,k1,hv,hk1,e2⟩:=pick' (code.take 2000) c' (code_ok h) 0 (by omega) 24 (by omega) [] []
  rw [show ((0:Nat):Int)=0 from rfl] at e2
  by_cases v0:v=0
  · subst v0
    rw [show ((0:Nat):Int)=0 from rfl] at e2
    obtain ⟨a,b,k,h1,h2,e3⟩:=ev_margins (code.take 2000) c' (code_ok h) k1 (by omega) [] []
    refine ⟨a,b,h1,h2,ev_lim ?_⟩
    refine call_of_wp zt559 rfl ?_
    repeat (first|apply wp_as|apply wp_ss|refine wr (by simp [e1,e2,e3];with_reducible rfl) ?_|refine wq (by simp [e1,e2,e3];with_reducible rfl) ?_|refine wt (by simpa [e1,e2,e3]) ?_|refine wf (by simpa [e1,e2,e3]) ?_|refine xt (by simpa [e1,e2,e3]) ?_|refine xf (by simpa [e1,e2,e3]) ?_|apply wp_bs|apply wp_b|refine wp_sr ?_|refine wp_sx ?_|refine wp_ret' ?_|refine wp_skip' ?_|refine wp_exit' ?_)
    simp [zi559]
  · obtain ⟨a,b,k,h1,h2,e3⟩:=ev_margins4 (code.take 2000) c' (code_ok h) k1 (by omega) [] []
    refine ⟨a,b,h1,h2,ev_lim ?_⟩
    refine call_of_wp zt559 rfl ?_
    repeat (first|apply wp_as|apply wp_ss|refine wr (by simp [e1,e2,e3,v0];with_reducible rfl) ?_|refine wq (by simp [e1,e2,e3,v0];with_reducible rfl) ?_|refine wt (by simpa [e1,e2,e3,v0]) ?_|refine wf (by simpa [e1,e2,e3,v0]) ?_|refine xt (by simpa [e1,e2,e3,v0]) ?_|refine xf (by simpa [e1,e2,e3,v0]) ?_|apply wp_bs|apply wp_b|refine wp_sr ?_|refine wp_sx ?_|refine wp_ret' ?_|refine wp_skip' ?_|refine wp_exit' ?_)
    simp [zi559]
end Go.Idl
namespace Go.Idl
def S {α:Type} (l:List α) (f:α→Int):Int:=(l.map f).sum
@[simp] theorem S_nil {α:Type} (f:α→Int):S [] f=0:=rfl
@[simp] theorem S_cons {α:Type} (a:α) (l:List α) (f:α→Int):S (a::l) f=f a+S l f:=by simp [S]
theorem S_app {α:Type} (l k:List α) (f:α→Int):S (l++k) f=S l f+S k f:=by simp [S]
theorem S_perm {α:Type} {l k:List α} (h:l.Perm k) (f:α→Int):S l f=S k f:=perm_sum (h.map f)
theorem S_add {α:Type} (l:List α) (f g:α→Int):S l (fun a=>f a+g a)=S l f+S l g:=by
  induction l with
  | nil=>rfl
  | cons a l ih=>simp only [S_cons,ih];omega
theorem S_sub {α:Type} (l:List α) (f g:α→Int):S l (fun a=>f a - g a)=S l f - S l g:=by
  induction l with
  | nil=>rfl
  | cons a l ih=>simp only [S_cons,ih];omega
theorem S_zero {α:Type} (l:List α):S l (fun _=>0)=0:=by
  induction l with
  | nil=>rfl
  | cons a l ih=>simp [ih]
theorem S_const {α:Type} (l:List α) (c:Int):S l (fun _=>c)=l.length * c:=by
  induction l with
  | nil=>simp
  | cons a l ih=>rw [S_cons,ih,List.length_cons,Int.natCast_add,Int.add_mul];simp;omega
theorem S_congr {α:Type} {l:List α} {f g:α→Int} (h:∀ a ∈ l,f a=g a):S l f=S l g:=by
  induction l with
  | nil=>rfl
  | cons a l ih=>rw [S_cons,S_cons,h a (by simp),ih fun b hb=>h b (by simp [hb])]
theorem S_le {α:Type} {l:List α} {f g:α→Int} (h:∀ a ∈ l,f a≤g a):S l f≤S l g:=by
  induction l with
  | nil=>simp
  | cons a l ih =>
    have h1:=h a (by simp)
    have h2:=ih fun b hb=>h b (by simp [hb])
    simp only [S_cons];omega
theorem S_swap {α β:Type} (l:List α) (k:List β) (f:α→β→Int):S l (fun a=>S k (f a))=S k (fun b=>S l (fun a=>f a b)):=by
  induction l with
  | nil=>simp [S_zero]
  | cons a l ih=>simp only [S_cons,S_add,ih]
theorem S_sublist {α:Type} {l k:List α} (h:l.Sublist k) {f:α→Int} (h0:∀ a ∈ k,0≤f a):S l f≤S k f:=by
  induction h with
  | slnil=>simp
  | cons a _ ih =>
    have h1:=h0 a (by simp)
    have h2:=ih fun b hb=>h0 b (by simp [hb])
    rw [S_cons];omega
  | cons_cons a _ ih =>
    have h2:=ih fun b hb=>h0 b (by simp [hb])
    rw [S_cons,S_cons];omega
theorem S_nonneg {α:Type} {l:List α} {f:α→Int} (h:∀ a ∈ l,0≤f a):0≤S l f:=by
  have:=S_le (l:=l) (f:=fun _=>0) h
  rwa [S_zero] at this
theorem S_map {α γ:Type} (l:List γ) (g:γ→α) (f:α→Int):S (l.map g) f=S l (fun c=>f (g c)):=by simp [S];rfl
theorem perm_map_inv {α β:Type} {f:α→β} {ys zs:List β} (h:ys.Perm zs):∀ {l:List α},zs=l.map f→∃ l':List α,l'.Perm l∧ys=l'.map f:=by
  induction h with
  | nil=>intro l hl;exact ⟨l,.refl _,hl⟩
  | cons x _ ih =>
    intro l hl
    cases l with
    | nil=>simp at hl
    | cons a l =>
      simp only [List.map_cons,List.cons.injEq] at hl
      obtain ⟨l',h1,h2⟩:=ih hl.2
      exact ⟨a::l',h1.cons a,by rw [List.map_cons,← h2,hl.1]⟩
  | swap x y r =>
    intro l hl
    cases l with
    | nil=>simp at hl
    | cons a l =>
      cases l with
      | nil=>simp at hl
      | cons b l =>
        simp only [List.map_cons,List.cons.injEq] at hl
        exact ⟨b::a::l,.swap a b l,by simp [hl.1,hl.2.1,hl.2.2]⟩
  | trans _ _ ih1 ih2 =>
    intro l hl
    obtain ⟨l2,h1,h2⟩:=ih2 hl
    obtain ⟨l3,h3,h4⟩:=ih1 h2
    exact ⟨l3,h3.trans h1,h4⟩
theorem S_one {α:Type} [DecidableEq α] {l:List α} (h:l.Nodup) (x:α):S l (fun a=>if x=a then 1 else 0)=if x ∈ l then 1 else 0:=by
  induction l with
  | nil=>simp
  | cons a l ih =>
    have h':=List.nodup_cons.1 h
    rw [S_cons,ih h'.2]
    by_cases hx:x=a
    · subst hx;simp [h'.1]
    · simp [hx]
theorem below_iff (a b:Int×Int):below a b=true ↔ a.1 < b.1 ∨ (a.1=b.1∧a.2 < b.2):=by simp [below]
theorem below_trans {a b c:Int×Int} (h:below a b=true) (k:below b c=true):below a c=true:=by
  rw [below_iff] at *;omega
theorem below_ne {a b:Int×Int} (h:below a b=true):a ≠ b:=by
  rintro rfl;rw [below_iff] at h;omega
abbrev PW (es:List (Int×Int)):Prop:=es.Pairwise fun a b=>below a b=true
theorem vEs_pw (n:Int):∀ (p:Option (Int×Int)) (es:List (Int×Int)),vEs n p es=true→PW es∧(∀ q,p=some q→∀ e ∈ es,below q e=true)
  | p,[],_=>⟨.nil,by simp⟩
  | none,e::r,h=>by
    simp only [vEs,Bool.and_eq_true] at h
    obtain ⟨h1,h2⟩:=vEs_pw n (some e) r h.2
    exact ⟨List.pairwise_cons.2 ⟨h2 e rfl,h1⟩,by simp⟩
  | some q,e::r,h=>by
    simp only [vEs,Bool.and_eq_true] at h
    obtain ⟨h1,h2⟩:=vEs_pw n (some e) r h.2.2
    refine ⟨List.pairwise_cons.2 ⟨h2 e rfl,h1⟩,fun q' hq' x hx=>?_⟩
    cases hq'
    rcases List.mem_cons.1 hx with rfl | hx
    · exact h.2.1
    · exact below_trans h.2.1 (h2 e rfl x hx)
theorem pw_vEs (n:Int):∀ (p:Option (Int×Int)) (es:List (Int×Int)),PW es→(∀ q,p=some q→∀ e ∈ es,below q e=true)→(∀ e ∈ es,okE n e=true)→vEs n p es=true
  | p,[],_,_,_=>by cases p <;> rfl
  | none,e::r,h,_,ho=>by
    have h':=List.pairwise_cons.1 h
    simp only [vEs,Bool.and_eq_true]
    exact ⟨ho e (by simp),pw_vEs n (some e) r h'.2 (fun q hq x hx=>by cases hq;exact h'.1 x hx) fun x hx=>ho x (by simp [hx])⟩
  | some q,e::r,h,hq,ho=>by
    have h':=List.pairwise_cons.1 h
    simp only [vEs,Bool.and_eq_true]
    exact ⟨ho e (by simp),hq q rfl e (by simp),pw_vEs n (some e) r h'.2 (fun q hq x hx=>by cases hq;exact h'.1 x hx) fun x hx=>ho x (by simp [hx])⟩
theorem row_mem_iff (a:Nat):∀ (m b:Nat) (e:Int×Int),e ∈ row a b m ↔ e.1=a∧(b:Int)≤e.2∧e.2 < b+m
  | 0,b,e=>by simp [row] <;> omega
  | m+1,b,e=>by
    rw [row,List.mem_cons,row_mem_iff a m (b+1) e]
    constructor
    · rintro (rfl | h)
      · simp;omega
      · omega
    · intro h
      by_cases h2:e.2=b
      · exact .inl (Prod.ext h.1 h2)
      · exact .inr (by omega)
theorem prsF_mem_iff:∀ (m a:Nat) (e:Int×Int),e ∈ prsF a m ↔ (a:Int)≤e.1∧e.1 < e.2∧e.2 < a+m
  | 0,a,e=>by simp [prsF];omega
  | m+1,a,e=>by
    rw [prsF,List.mem_append,row_mem_iff,prsF_mem_iff m (a+1) e]
    omega
theorem mem_prs {n:Nat} {e:Int×Int}:e ∈ prs n ↔ 0≤e.1∧e.1 < e.2∧e.2 < n:=by
  rw [prs,prsF_mem_iff];omega
theorem row_pw (a:Nat):∀ (m b:Nat),PW (row a b m)
  | 0,b=>.nil
  | m+1,b=>by
    rw [row]
    refine List.pairwise_cons.2 ⟨fun e he=>?_,row_pw a m (b+1)⟩
    rw [row_mem_iff] at he
    rw [below_iff];simp only;omega
theorem prsF_pw:∀ (m a:Nat),PW (prsF a m)
  | 0,a=>.nil
  | m+1,a=>by
    rw [prsF]
    refine List.pairwise_append.2 ⟨row_pw a m (a+1),prsF_pw m (a+1),fun x hx y hy=>?_⟩
    rw [row_mem_iff] at hx
    rw [prsF_mem_iff] at hy
    rw [below_iff];omega
theorem prs_pw (n:Nat):PW (prs n):=prsF_pw n 0
theorem pw_nodup {es:List (Int×Int)} (h:PW es):es.Nodup:=h.imp fun h=>below_ne h
theorem pw_ext {xs ys:List (Int×Int)} (hx:PW xs) (hy:PW ys) (h:∀ e,e ∈ xs ↔ e ∈ ys):xs=ys:=by
  refine List.Perm.eq_of_pairwise (le:=fun a b=>below a b=true) (fun a b _ _ h1 h2=>absurd (below_trans h1 h2) (fun h=>below_ne h rfl)) hx hy ?_
  exact (List.perm_ext_iff_of_nodup (pw_nodup hx) (pw_nodup hy)).2 h
theorem vG_iff {n:Nat} {es:List (Int×Int)}:vGraph n es=true ↔ PW es∧(∀ e ∈ es,e ∈ prs n)∧n≤7:=by
  constructor
  · intro h
    have h1:=vG_n h
    have h2:=vG_edges h
    simp only [vGraph,Bool.and_eq_true] at h
    exact ⟨(vEs_pw n none es h.1).1,fun e he=>mem_prs.2 (h2 e he),by omega⟩
  · rintro ⟨h1,h2,h3⟩
    simp only [vGraph,Bool.and_eq_true,decide_eq_true_eq]
    refine ⟨pw_vEs n none es h1 (by simp) fun e he=>?_,by omega,by omega⟩
    have:=mem_prs.1 (h2 e he)
    simp only [okE,Bool.and_eq_true,decide_eq_true_eq];omega
theorem filter_vG {n:Nat} (hn:n≤7) (p:Int×Int→Bool):vGraph n ((prs n).filter p)=true :=
  vG_iff.2 ⟨(prs_pw n).filter _,fun e he=>(List.mem_filter.1 he).1,hn⟩
theorem vG_filter {n:Nat} {es:List (Int×Int)} (h:vGraph n es=true):es=(prs n).filter fun e=>decide (e ∈ es):=by
  obtain ⟨h1,h2,h3⟩:=vG_iff.1 h
  refine pw_ext h1 ((prs_pw n).filter _) fun e=>?_
  rw [List.mem_filter,decide_eq_true_eq]
  exact ⟨fun he=>⟨h2 e he,he⟩,fun he=>he.2⟩
theorem vG_sub {n:Nat} {es:List (Int×Int)} (h:vGraph n es=true):es.Sublist (prs n):=by
  rw [vG_filter h];exact List.filter_sublist
def inc (v:Nat) (e:Int×Int):Int:=(if e.1=v then 1 else 0)+(if e.2=v then 1 else 0)
def deg (es:List (Int×Int)) (v:Nat):Int:=S es (inc v)
theorem bump_get {o:List Int} {i v:Nat} (hv:v < o.length):(bump o i).getD v 0=o.getD v 0+(if i=v then 1 else 0):=by
  rw [bump,List.getD_eq_getElem?_getD,List.getElem?_set]
  by_cases h:i=v
  · subst h;simp [hv,List.getD_eq_getElem?_getD]
  · simp [h,List.getD_eq_getElem?_getD]
theorem dfold_get {n:Nat}:∀ (es:List (Int×Int)) (o:List Int),(∀ e ∈ es,0≤e.1∧0≤e.2)→∀ v,v < o.length→(dfold o es).getD v 0=o.getD v 0+deg es v
  | [],o,_,v,_=>by simp [dfold,deg]
  | e::es,o,h,v,hv=>by
    have h1:=h e (by simp)
    have:=dfold_get (n:=n) es (bump (bump o e.1.toNat) e.2.toNat) (fun x hx=>h x (by simp [hx])) v (by simp [bump_len];exact hv)
    rw [show dfold o (e::es)=dfold (bump (bump o e.1.toNat) e.2.toNat) es from rfl,this,bump_get (by rw [bump_len];exact hv),bump_get hv,deg,deg,S_cons]
    have c1:(e.1.toNat=v)=(e.1=(v:Int)):=by rw [eq_iff_iff];omega
    have c2:(e.2.toNat=v)=(e.2=(v:Int)):=by rw [eq_iff_iff];omega
    simp only [inc,c1,c2]
    omega
theorem degs_eq {n:Nat} {es:List (Int×Int)} (h:EdgesIn n es):degs n es=(List.range n).map (deg es):=by
  have hl:(degs n es).length=n:=by rw [degs,dfold_len];simp
  refine List.ext_getElem (by simp [hl]) fun v h1 h2=>?_
  have:=dfold_get (n:=n) es (List.replicate n 0) (fun e he=>by have:=h e he;omega) v (by simp;omega)
  rw [← degs,List.getD_eq_getElem?_getD,List.getElem?_eq_getElem h1] at this
  simp only [Option.getD_some] at this
  rw [this]
  simp [List.getD_eq_getElem?_getD]
  rw [List.getElem?_eq_getElem (by simp;omega)];simp
end Go.Idl
namespace Go.Idl
def insP (x:Nat×Nat):List (Nat×Nat)→List (Nat×Nat)
  | []=>[x]
  | y::r=>if Nat.ble y.1 x.1 then x::y::r else y::insP x r
def hh:Nat→List (Nat×Nat)→List (Nat×Nat)
  | 0,_=>[]
  | _+1,[]=>[]
  | m+1,x::r=>(r.take x.1).map (fun y:Nat×Nat=>(x.2,y.2))++hh m ((((r.take x.1).map (fun y:Nat×Nat=>(y.1 - 1,y.2))++r.drop x.1:List (Nat×Nat))).foldr insP [])
theorem getD_zero_all {left:List Int} {N:Nat} (hl:left.length=N):left.all (fun x=>decide (x=0))=true ↔ ∀ v,v < N→(0:Int)=left.getD v 0:=by
  rw [List.all_eq_true]
  constructor
  · intro h v hv
    rw [List.getD_eq_getElem?_getD,List.getElem?_eq_getElem (by omega)]
    have:=of_decide_eq_true (h _ (List.getElem_mem (show v < left.length by omega)))
    simp [this]
  · intro h x hx
    obtain ⟨v,hv,rfl⟩:=List.getElem_of_mem hx
    have:=h v (by omega)
    rw [List.getD_eq_getElem?_getD,List.getElem?_eq_getElem hv] at this
    simpa using this.symm
theorem decAt_get {o:List Int} {i v:Nat} (hv:v < o.length):(decAt o i).getD v 0=o.getD v 0 - (if i=v then 1 else 0):=by
  rw [decAt,List.getD_eq_getElem?_getD,List.getElem?_set]
  by_cases h:i=v
  · subst h;simp [hv,List.getD_eq_getElem?_getD]
  · simp [h,List.getD_eq_getElem?_getD]
theorem inc_nonneg (v:Nat) (e:Int×Int):0≤inc v e:=by simp only [inc];split <;> split <;> decide
theorem mem_subs {N:Nat}:∀ (r:List (Int×Int)) (left:List Int) (ch g:List (Int×Int)),(∀ e ∈ r,0≤e.1∧e.1 < e.2∧e.2 < N)→left.length=N →
    (g ∈ subs r left ch ↔ ∃ s:List (Int×Int),s.Sublist r∧g=ch++s∧∀ v,v < N→deg s v=left.getD v 0)
  | [],left,ch,g,_,hl=>by
    rw [subs]
    constructor
    · intro h
      split at h
      · rename_i hz
        simp at h
        subst h
        exact ⟨[],List.Sublist.refl _,by simp,fun v hv=>(getD_zero_all hl).1 hz v hv⟩
      · simp at h
    · rintro ⟨s,hs,rfl,hd⟩
      have:s=[]:=by simpa using hs
      subst this
      rw [if_pos ((getD_zero_all hl).2 fun v hv=>hd v hv)]
      simp
  | e::r,left,ch,g,hr,hl=>by
    have he:=hr e (by simp)
    have hr':∀ x ∈ r,0≤x.1∧x.1 < x.2∧x.2 < N:=fun x hx=>hr x (by simp [hx])
    have hdl:(decAt (decAt left e.1.toNat) e.2.toNat).length=N:=by simp [decAt,hl]
    have hget:∀ v,v < N→(decAt (decAt left e.1.toNat) e.2.toNat).getD v 0=left.getD v 0 - inc v e:=fun v hv=>by
      rw [decAt_get (by simp [decAt];omega),decAt_get (by omega),inc]
      have c1:(e.1.toNat=v)=(e.1=(v:Int)):=by rw [eq_iff_iff];omega
      have c2:(e.2.toNat=v)=(e.2=(v:Int)):=by rw [eq_iff_iff];omega
      simp only [c1,c2];omega
    rw [subs,List.mem_append]
    constructor
    · rintro (h | h)
      · split at h
        rotate_left
        · simp at h
        obtain ⟨s,hs,rfl,hd⟩:=(mem_subs r _ _ g hr' hdl).1 h
        refine ⟨e::s,hs.cons_cons e,by simp,fun v hv=>?_⟩
        have h1:=hd v hv
        rw [hget v hv] at h1
        rw [deg,S_cons]
        have h2:S s (inc v)=left.getD v 0 - inc v e:=h1
        rw [h2];omega
      · obtain ⟨s,hs,rfl,hd⟩:=(mem_subs r _ _ g hr' hl).1 h
        exact ⟨s,hs.cons e,rfl,hd⟩
    · rintro ⟨s,hs,rfl,hd⟩
      rcases List.sublist_cons_iff.1 hs with hs2 | ⟨s',rfl,hs2⟩
      · exact .inr ((mem_subs r _ _ _ hr' hl).2 ⟨s,hs2,rfl,hd⟩)
      · refine .inl ?_
        have hd':∀ v,v < N→inc v e+deg s' v=left.getD v 0:=fun v hv=>by
          rw [← hd v hv,deg,deg,S_cons]
        have pos:∀ x:Int,0≤x→x < N→(e.1=x ∨ e.2=x)→0 < left.getD x.toNat 0:=fun x h0 h1 h2=>by
          have h3:=hd' x.toNat (by omega)
          have h4:0≤deg s' x.toNat:=S_nonneg fun y _=>inc_nonneg _ y
          have h5:1≤inc x.toNat e:=by
            simp only [inc,show ((x.toNat:Nat):Int)=x by omega]
            rcases h2 with h2 | h2
            · rw [if_pos h2];split <;> decide
            · rw [if_pos h2];split <;> decide
          omega
        rw [if_pos ⟨pos e.1 (by omega) (by omega) (.inl rfl),pos e.2 (by omega) (by omega) (.inr rfl)⟩]
        refine (mem_subs r _ _ _ hr' hdl).2 ⟨s',hs2,by simp,fun v hv=>?_⟩
        rw [hget v hv,← hd' v hv];omega
theorem ite_iff {α:Type} {p q:Prop} [Decidable p] [Decidable q] (h:p ↔ q) (a b:α):(if p then a else b)=if q then a else b:=by
  by_cases hp:p
  · rw [if_pos hp,if_pos (h.1 hp)]
  · rw [if_neg hp,if_neg fun hq=>hp (h.2 hq)]
def mk (u v:Nat):Int×Int:=(min (u:Int) v,max (u:Int) v)
theorem inc_mk_all:(List.range 8).all (fun n=>(prs n).all fun e=>(List.range n).all fun v=>decide (inc v e=S (List.range n) (fun u=>if u=v then 0 else if e=mk u v then 1 else 0)))=true:=by decide +kernel
theorem inc_mk {n:Nat} (hn:n≤7) {e:Int×Int} (he:e ∈ prs n) {v:Nat} (hv:v < n):inc v e=S (List.range n) (fun u=>if u=v then 0 else if e=mk u v then 1 else 0):=by
  have:=List.all_eq_true.1 (List.all_eq_true.1 (List.all_eq_true.1 inc_mk_all n (List.mem_range.2 (by omega))) e he) v (List.mem_range.2 hv)
  exact of_decide_eq_true this
theorem S_ite {α:Type} (l:List α) (p:α→Bool) (f:α→Int):S (l.filter p) f=S l (fun a=>if p a then f a else 0):=by
  induction l with
  | nil=>rfl
  | cons a l ih =>
    rw [List.filter_cons,S_cons]
    split <;> rename_i h
    · rw [S_cons,ih]
    · rw [ih];omega
theorem mk_mem {n u v:Nat} (hu:u < n) (hv:v < n) (h:u ≠ v):mk u v ∈ prs n:=mem_prs.2 (by simp only [mk];omega)
theorem deg_filter {n:Nat} (hn:n≤7) (p:Int×Int→Bool) {v:Nat} (hv:v < n):deg ((prs n).filter p) v=S (List.range n) (fun u=>if u=v then 0 else if p (mk u v) then 1 else 0):=by
  rw [deg,S_ite,S_congr (g:=fun e=>S (List.range n) (fun u=>if u=v then 0 else if e=mk u v then (if p (mk u v) then 1 else 0) else 0)) fun e he=>?_,S_swap]
  · refine S_congr fun u hu=>?_
    have hu:=List.mem_range.1 hu
    by_cases huv:u=v
    · simp only [huv,if_true];exact S_zero _
    · simp only [if_neg huv]
      have hm:=mk_mem hu hv huv
      have h1:=S_one (pw_nodup (prs_pw n)) (mk u v)
      rw [if_pos hm] at h1
      by_cases hp:p (mk u v)=true
      · simp only [hp,if_true]
        exact Eq.trans (S_congr fun e _=>ite_iff eq_comm _ _) h1
      · simp only [if_neg hp,ite_self];exact S_zero _
  · rw [inc_mk hn he hv]
    by_cases hp:p e=true
    · rw [if_pos hp]
      refine S_congr fun u _=>?_
      by_cases huv:u=v
      · simp [huv]
      · simp only [if_neg huv]
        by_cases hem:e=mk u v
        · rw [if_pos hem,if_pos hem,← hem,if_pos hp]
        · rw [if_neg hem,if_neg hem]
    · rw [if_neg hp]
      symm
      rw [S_congr (g:=fun _=>0),S_zero]
      intro u _
      by_cases huv:u=v
      · simp [huv]
      · simp only [if_neg huv]
        by_cases hem:e=mk u v
        · rw [if_pos hem,← hem,if_neg hp]
        · rw [if_neg hem]
theorem mk_comm (u v:Nat):mk u v=mk v u:=Prod.ext (by simp only [mk];omega) (by simp only [mk];omega)
theorem degs_filter {n:Nat} (p:Int×Int→Bool):degs n ((prs n).filter p)=(List.range n).map (deg ((prs n).filter p)) :=
  degs_eq fun e he=>by have:=mem_prs.1 (List.mem_filter.1 he).1;omega
end Go.Idl
namespace Go.Idl
open Go
theorem lil_zero {l:List Int} (h:Lil l) (hs:¬ 0 < l.sum) (i:Nat):l.getD i 0=0:=by
  induction l generalizing i with
  | nil=>simp
  | cons x r ih =>
    have h1:=h x (by simp)
    have hr:Lil r:=fun y hy=>h y (by simp [hy])
    have h2:=hr.sum
    rw [List.sum_cons] at hs
    cases i with
    | zero=>simp;omega
    | succ i=>simpa using ih hr (by omega) i
theorem zero_sum {l:List Int} (h:∀ i,i < l.length→l.getD i 0=0):l.sum=0:=by
  induction l with
  | nil=>rfl
  | cons x r ih =>
    have h1:=h 0 (by simp)
    have h2:=ih fun i hi=>by have:=h (i+1) (by simpa using hi);simpa using this
    simp at h1
    rw [List.sum_cons];omega
def cR (f:Nat→Bool) (h m k i:Nat):Int:=S (List.range' k m) fun c=>if c / h=i then (if f c then 1 else 0) else 0
def cC (f:Nat→Bool) (h m k j:Nat):Int:=S (List.range' k m) fun c=>if c % h=j then (if f c then 1 else 0) else 0
theorem cR_succ (f:Nat→Bool) (h m k i:Nat):cR f h (m+1) k i=(if k / h=i then (if f k then 1 else 0) else 0)+cR f h m (k+1) i:=by
  rw [cR,List.range'_succ,S_cons];rfl
theorem cC_succ (f:Nat→Bool) (h m k i:Nat):cC f h (m+1) k i=(if k % h=i then (if f k then 1 else 0) else 0)+cC f h m (k+1) i:=by
  rw [cC,List.range'_succ,S_cons];rfl
theorem cR_pos (f:Nat→Bool) (h m k i:Nat):0≤cR f h m k i:=S_nonneg fun c _=>by split <;> (try split) <;> omega
theorem cC_pos (f:Nat→Bool) (h m k i:Nat):0≤cC f h m k i:=S_nonneg fun c _=>by split <;> (try split) <;> omega
theorem cR_congr {f g:Nat→Bool} (h m k i:Nat) (hfg:∀ c,k≤c→f c=g c):cR f h m k i=cR g h m k i :=
  S_congr fun c hc=>by rw [hfg c (by have:=List.mem_range'_1.1 hc;omega)]
theorem cC_congr {f g:Nat→Bool} (h m k i:Nat) (hfg:∀ c,k≤c→f c=g c):cC f h m k i=cC g h m k i :=
  S_congr fun c hc=>by rw [hfg c (by have:=List.mem_range'_1.1 hc;omega)]
theorem cR_le (f:Nat→Bool) (h:Nat) (h0:0 < h) (i:Nat):∀ m k:Nat,cR f h m k i≤(((i+1) * h - k:Nat):Int)
  | 0,k=>by show (0:Int)≤_;omega
  | m+1,k=>by
    have h1:=cR_le f h h0 i m (k+1)
    rw [cR_succ]
    by_cases hk:k / h=i
    · have h2:k < (i+1) * h:=by rw [← hk,Nat.mul_comm];exact Nat.lt_mul_div_succ k h0
      rw [if_pos hk]
      split <;> omega
    · rw [if_neg hk];omega
theorem mts_iff (may:Nat→Nat→Bool) (w h:Nat) (h0:0 < h):∀ (m k:Nat) (l r:List Int) (t:List (List Int)),k+m=w * h→l.length=w→r.length=h→Lil l→Lil r →
    (mts may h m k l r t ≠ [] ↔ ∃ f:Nat→Bool,(∀ c,k≤c→f c=true→may (c / h) (c % h)=true)∧(∀ i,i < w→cR f h m k i=l.getD i 0)∧(∀ j,j < h→cC f h m k j=r.getD j 0))
  | 0,k,l,r,t,hk,hl,hr,ll,lr=>by
    rw [mts]
    constructor
    · intro hne
      have hs:¬ (0 < l.sum ∨ 0 < r.sum):=fun q=>hne (by rw [if_pos q])
      refine ⟨fun _=>false,fun _ _ q=>by simp at q,fun i _=>?_,fun j _=>?_⟩
      · rw [lil_zero ll (fun q=>hs (.inl q))];rfl
      · rw [lil_zero lr (fun q=>hs (.inr q))];rfl
    · rintro ⟨f,_,h1,h2⟩
      have s1:l.sum=0:=zero_sum fun i hi=>(h1 i (by omega)).symm
      have s2:r.sum=0:=zero_sum fun i hi=>(h2 i (by omega)).symm
      rw [if_neg (by omega)]
      simp
  | m+1,k,l,r,t,hk,hl,hr,ll,lr=>by
    have hkw:k < w * h:=by omega
    have iw:k / h < w:=Nat.div_lt_of_lt_mul (by rw [Nat.mul_comm];exact hkw)
    have jh:k % h < h:=Nat.mod_lt _ h0
    have hdm:(k / h+1) * h - k=h - k % h:=by
      have:=Nat.div_add_mod k h
      rw [Nat.mul_comm] at this
      rw [Nat.succ_mul];omega
    rw [mts]
    by_cases hov:(h:Int) - ((k % h:Nat):Int) < l.getD (k / h) 0
    · rw [if_pos hov]
      refine ⟨fun q=>absurd rfl q,?_⟩
      rintro ⟨f,_,h1,_⟩
      have:=cR_le f h h0 (k / h) (m+1) k
      rw [h1 _ iw,hdm] at this
      omega
    · rw [if_neg hov]
      have hap:∀ (x y:List (List (List Int))),x++y ≠ [] ↔ x ≠ [] ∨ y ≠ []:=fun x y=>by
        cases x <;> simp
      rw [hap,mts_iff may w h h0 m (k+1) l r t (by omega) hl hr ll lr]
      have dl:∀ i,(decAt l (k / h)).getD i 0=l.getD i 0 - (if k / h=i∧i < w then 1 else 0):=fun i=>by
        by_cases hi:i < l.length
        · rw [decAt_get hi]
          by_cases hq:k / h=i
          · rw [if_pos hq,if_pos ⟨hq,by omega⟩]
          · rw [if_neg hq,if_neg fun q=>hq q.1]
        · have e1:∀ x:List Int,x.length=l.length→x.getD i 0=0:=fun x hx=>by
            rw [List.getD_eq_getElem?_getD,List.getElem?_eq_none (by omega)];rfl
          rw [e1 _ (by simp [decAt]),e1 _ rfl,if_neg (by omega)];rfl
      have dr:∀ i,(decAt r (k % h)).getD i 0=r.getD i 0 - (if k % h=i∧i < h then 1 else 0):=fun i=>by
        by_cases hi:i < r.length
        · rw [decAt_get hi]
          by_cases hq:k % h=i
          · rw [if_pos hq,if_pos ⟨hq,by omega⟩]
          · rw [if_neg hq,if_neg fun q=>hq q.1]
        · have e1:∀ x:List Int,x.length=r.length→x.getD i 0=0:=fun x hx=>by
            rw [List.getD_eq_getElem?_getD,List.getElem?_eq_none (by omega)];rfl
          rw [e1 _ (by simp [decAt]),e1 _ rfl,if_neg (by omega)];rfl
      constructor
      · rintro (h1 | ⟨f,f1,f2,f3⟩)
        · by_cases htk:may (k / h) (k % h)=true∧0 < l.getD (k / h) 0∧0 < r.getD (k % h) 0
          · rw [if_pos htk,mts_iff may w h h0 m (k+1) _ _ _ (by omega) (by simp [decAt,hl]) (by simp [decAt,hr]) (ll.dec htk.2.1) (lr.dec htk.2.2)] at h1
            obtain ⟨f,f1,f2,f3⟩:=h1
            refine ⟨fun c=>if c=k then true else f c,fun c hc hf=>?_,fun i hi=>?_,fun j hj=>?_⟩
            · by_cases hck:c=k
              · subst hck;exact htk.1
              · exact f1 c (by omega) (by simpa [hck] using hf)
            · have e1:=cR_congr (f:=fun c=>if c=k then true else f c) (g:=f) h m (k+1) i fun c hc=>by
                  have hck:¬ c=k:=by omega
                  simp [hck]
              rw [cR_succ,e1,f2 i hi,dl]
              by_cases hq:k / h=i
              · rw [if_pos hq,if_pos (show k / h=i∧i < w from ⟨hq,hi⟩)];simp;omega
              · rw [if_neg hq,if_neg fun q=>hq q.1];omega
            · have e1:=cC_congr (f:=fun c=>if c=k then true else f c) (g:=f) h m (k+1) j fun c hc=>by
                  have hck:¬ c=k:=by omega
                  simp [hck]
              rw [cC_succ,e1,f3 j hj,dr]
              by_cases hq:k % h=j
              · rw [if_pos hq,if_pos (show k % h=j∧j < h from ⟨hq,hj⟩)];simp;omega
              · rw [if_neg hq,if_neg fun q=>hq q.1];omega
          · rw [if_neg htk] at h1;exact absurd rfl h1
        · refine ⟨fun c=>if c=k then false else f c,fun c hc hf=>?_,fun i hi=>?_,fun j hj=>?_⟩
          · by_cases hck:c=k
            · simp [hck] at hf
            · exact f1 c (by omega) (by simpa [hck] using hf)
          · have e1:=cR_congr (f:=fun c=>if c=k then false else f c) (g:=f) h m (k+1) i fun c hc=>by
                  have hck:¬ c=k:=by omega
                  simp [hck]
            rw [cR_succ,e1,f2 i hi];simp
          · have e1:=cC_congr (f:=fun c=>if c=k then false else f c) (g:=f) h m (k+1) j fun c hc=>by
                  have hck:¬ c=k:=by omega
                  simp [hck]
            rw [cC_succ,e1,f3 j hj];simp
      · rintro ⟨f,f1,f2,f3⟩
        by_cases hf:f k=true
        · refine .inl ?_
          have p1:=f2 _ iw
          have p2:=f3 _ jh
          rw [cR_succ,if_pos rfl,if_pos hf] at p1
          rw [cC_succ,if_pos rfl,if_pos hf] at p2
          have q1:=cR_pos f h m (k+1) (k / h)
          have q2:=cC_pos f h m (k+1) (k % h)
          have htk:may (k / h) (k % h)=true∧0 < l.getD (k / h) 0∧0 < r.getD (k % h) 0:=⟨f1 k (Nat.le_refl _) hf,by omega,by omega⟩
          rw [if_pos htk,mts_iff may w h h0 m (k+1) _ _ _ (by omega) (by simp [decAt,hl]) (by simp [decAt,hr]) (ll.dec htk.2.1) (lr.dec htk.2.2)]
          refine ⟨f,fun c hc=>f1 c (by omega),fun i hi=>?_,fun j hj=>?_⟩
          · have:=f2 i hi
            rw [cR_succ] at this
            rw [dl]
            by_cases hq:k / h=i
            · rw [if_pos hq,if_pos hf] at this;rw [if_pos (show k / h=i∧i < w from ⟨hq,hi⟩)];omega
            · rw [if_neg hq] at this;rw [if_neg fun q=>hq q.1];omega
          · have:=f3 j hj
            rw [cC_succ] at this
            rw [dr]
            by_cases hq:k % h=j
            · rw [if_pos hq,if_pos hf] at this;rw [if_pos (show k % h=j∧j < h from ⟨hq,hj⟩)];omega
            · rw [if_neg hq] at this;rw [if_neg fun q=>hq q.1];omega
        · refine .inr ⟨f,fun c hc=>f1 c (by omega),fun i hi=>?_,fun j hj=>?_⟩
          · have:=f2 i hi
            rw [cR_succ,if_neg hf] at this
            simpa using this
          · have:=f3 j hj
            rw [cC_succ,if_neg hf] at this
            simpa using this
end Go.Idl
namespace Go.Idl
open Go
def Dg (n:Nat) (a b:List Int):Prop:=∃ p:Nat→Nat→Bool,(∀ v,p v v=false) ∧
  (∀ v,v < n→S (List.range n) (fun u=>if p v u then 1 else 0)=a.getD v 0)∧(∀ v,v < n→S (List.range n) (fun u=>if p u v then 1 else 0)=b.getD v 0)
theorem Dg.symm {n:Nat} {a b:List Int}:Dg n a b→Dg n b a:=fun ⟨p,h1,h2,h3⟩=>⟨fun u v=>p v u,h1,h3,h2⟩
end Go.Idl
namespace Go.Idl
open Go
theorem MM.set {h w:Nat} {t:List (List Int)} (ht:MM h w t) {i j:Nat} {v:Int} (hi:i < t.length) (hv:0≤v∧v≤1):MM h w (t.set i (t[i].set j v)):=by
  refine ⟨by simpa using ht.1,fun r hr=>?_⟩
  have h1:=ht.2 _ (List.getElem_mem hi)
  rcases List.mem_or_eq_of_mem_set hr with hr | rfl
  · exact ht.2 r hr
  · refine ⟨by simpa using h1.1,fun x hx=>?_⟩
    rcases List.mem_or_eq_of_mem_set hx with hx | rfl
    · exact h1.2 x hx
    · exact hv
end Go.Idl
namespace Go.Idl
open Go
theorem getD_map (a:List Int):a=(List.range a.length).map fun v=>a.getD v 0:=by
  refine List.ext_getElem (by simp) fun i k1 k2=>?_
  simp [List.getD_eq_getElem?_getD,List.getElem?_eq_getElem k1]
theorem map_sum_S (b:List Int) (g:Int→Int):(b.map g).sum=S (List.range b.length) (fun v=>g (b.getD v 0)):=by
  conv=>lhs;rw [getD_map b,List.map_map]
  rfl
theorem sum_S (a:List Int):a.sum=S (List.range a.length) (fun v=>a.getD v 0):=by
  conv=>lhs;rw [getD_map a]
  rfl
end Go.Idl
namespace Go.Idl
open Go
def joined (r c:List Int):List Int:=(r.map fun x:Int=>x+(r.length:Int) - 1)++c
end Go.Idl
namespace Go.Idl
theorem joined_valid {r c:List Int} (hv:vMar r c=true) (h7:r.length+c.length≤7):valid (joined r c)=true:=by
  simp only [vMar,sideOk,inAll,Bool.and_eq_true,decide_eq_true_eq,List.all_eq_true] at hv
  obtain ⟨h1,h2,h3,h4⟩:=hv
  simp only [valid,joined,Bool.and_eq_true,decide_eq_true_eq,List.all_eq_true,List.length_append,List.length_map]
  refine ⟨h7,fun x hx=>?_⟩
  rcases List.mem_append.1 hx with hx | hx
  · obtain ⟨y,hy,rfl⟩:=List.mem_map.1 hx
    have:=h3 y hy
    omega
  · have:=h4 x hx
    omega
end Go.Idl
namespace Go.Idl
open Go
abbrev Str (s:ByteArray):IV:=.sc (.string s)
def strs (l:List ByteArray):List (List IV):=l.map fun s=>[Str s]
@[simp] theorem strs_len (l:List ByteArray):(strs l).length=l.length:=by simp [strs]
@[simp] theorem strs_get (l:List ByteArray) (i:Nat) (h:i < (strs l).length):(strs l)[i]=[IV.sc (.string (l[i]'(by simpa [strs] using h)))]:=by simp [strs]
@[simp] theorem strs_get? (l:List ByteArray) (i:Nat):(strs l)[i]? = l[i]?.map fun s=>[IV.sc (.string s)]:=by simp [strs]
end Go.Idl
namespace Go.Idl
open Go
def capsW:List IV:=[.bptr 1 1 0,.bptr 1 3 0,.bptr 1 2 0,.bptr 1 0 0,.bptr 1 4 0,.bptr 1 5 0]
def boxW (n:Int) (e0:Nat) (from_:List (Int×Int)) (c:Bool) (F:Lab) (caps:List IV) (left:List Int) (ch:IV):Boxes :=
  [[I n],[.lst e0 (eds from_) c],[.fn F caps],[O left],[ch],[.fn zl219 capsW]]
def CallsBack (n:Int) (F:Lab) (caps:List IV) (more:List (Int×Int)→Bool) (P:List (List (Int×Int))→Boxes→Prop):Prop :=
  ∀ gl bs es,P gl bs→gl.length≤10000000→es.length≤1000→∃ bs',P (gl++[es]) bs'∧∀ B Es,Ev tb F [] (.agg [I n,O2 es]::caps) (bs::B::Es) ⟨Bo (more es),[],bs'::B::Es,[]⟩
theorem sg_end (n:Int) (e0:Nat) (from_:List (Int×Int)) (c:Bool) (F:Lab) (caps:List IV) (more:List (Int×Int)→Bool) (P:List (List (Int×Int))→Boxes→Prop) (hcb:CallsBack n F caps more P) (N:Nat)
    (hN:N≤1000) (hfl:from_.length≤900) (left:List Int) (ch:IV) (chosen:List (Int×Int)) (gl:List (List (Int×Int))) (bs:Boxes) (Es:List Boxes) (hP:P gl bs) (hgl:gl.length≤10000000) (hch:EdRep ch chosen)
    (hl:left.length=N) (hcl:chosen.length≤950) :
    ∃ ch' bs',EdRep ch' chosen∧P (gl++(upTo more (subs [] left chosen)).1) bs' ∧
      Ev tb zl219 [] (I from_.length::capsW) (bs::boxW n e0 from_ c F caps left ch::Es) ⟨Bo (upTo more (subs [] left chosen)).2,[],bs'::boxW n e0 from_ c F caps left ch'::Es,[]⟩:=by
  have e1:=fun cc=>ev_lim (ev_allIn left cc 0 0 (by omega))
  have hz0:(left.all fun x=>decide (0≤x) && decide (x≤0))=left.all fun x=>decide (x=0):=by
    congr 1;funext x;rw [Bool.eq_iff_iff];simp;omega
  rw [hz0] at e1
  have hlt:left.take N=left:=List.take_of_length_le (by omega)
  unfold subs
  cases hz:left.all (fun x=>decide (x=0)) with
  | false =>
    rw [hz] at e1
    simp only [Bool.false_eq_true,if_false]
    refine ⟨ch,bs,hch,by simpa [upTo] using hP,?_⟩
    simp only [upTo,boxW,capsW]
    refine call_of_wp zt219 rfl ?_
    repeat (first|apply wp_as|apply wp_ss|refine wr (by simp [e1,hl,hlt];with_reducible rfl) ?_|refine wq (by simp [e1,hl,hlt];with_reducible rfl) ?_|refine wt (by simpa [e1,hl,hlt]) ?_|refine wf (by simpa [e1,hl,hlt]) ?_|refine xt (by simpa [e1,hl,hlt]) ?_|refine xf (by simpa [e1,hl,hlt]) ?_|apply wp_bs|apply wp_b|refine wp_sr ?_|refine wp_sx ?_|refine wp_ret' ?_|refine wp_skip' ?_|refine wp_exit' ?_)
    refine wp_ra (by simp [e1,hl,hlt];with_reducible rfl) (by simp;with_reducible rfl) ?_ ?_
    · intro p hp
      simp only [List.mem_cons,List.not_mem_nil,or_false] at hp
      rcases hp with rfl | rfl | rfl | rfl | rfl
      · exact ⟨_,by simp [e1,hl,hlt];with_reducible rfl,by simp⟩
      · exact ⟨_,by simp [e1,hl,hlt];with_reducible rfl,by simp⟩
      · exact ⟨_,by simp [e1,hl,hlt];with_reducible rfl,by simp⟩
      · exact ⟨_,by simp [e1,hl,hlt];with_reducible rfl,by simp⟩
      · exact ⟨_,by simp [e1,hl,hlt];with_reducible rfl,by simp⟩
    repeat (first|apply wp_as|apply wp_ss|refine wr (by simp;with_reducible rfl) ?_|refine wq (by simp;with_reducible rfl) ?_|refine wt (by simpa) ?_|refine wf (by simpa) ?_|refine xt (by simpa) ?_|refine xf (by simpa) ?_|apply wp_bs|apply wp_b|refine wp_sr ?_|refine wp_sx ?_|refine wp_ret' ?_|refine wp_skip' ?_|refine wp_exit' ?_)
    simp [zi219]
  | true =>
    rw [hz] at e1
    obtain ⟨bs',hP',hF⟩:=hcb gl bs chosen hP hgl (by omega)
    simp only [if_true]
    have hu:upTo more [chosen]=([chosen],more chosen):=by simp only [upTo];cases more chosen <;> rfl
    rw [hu]
    refine ⟨ch,bs',hch,hP',?_⟩
    have e2:=fun B Es=>ev_lim (hF B Es)
    have hct:chosen.take chosen.length=chosen:=List.take_of_length_le (Nat.le_refl _)
    generalize more chosen=b at *
    rcases hch with rfl | ⟨rfl,rfl⟩
    · have e3:=fun cc=>ev_lim (ev_clone2 2 chosen cc (.inl rfl) (by omega))
      simp only [boxW,capsW] at e2 ⊢
      refine call_of_wp zt219 rfl ?_
      repeat (first|apply wp_as|apply wp_ss|refine wr (by simp [e1,hl,hlt];with_reducible rfl) ?_|refine wq (by simp [e1,hl,hlt];with_reducible rfl) ?_|refine wt (by simpa [e1,hl,hlt]) ?_|refine wf (by simpa [e1,hl,hlt]) ?_|refine xt (by simpa [e1,hl,hlt]) ?_|refine xf (by simpa [e1,hl,hlt]) ?_|apply wp_bs|apply wp_b|refine wp_sr ?_|refine wp_sx ?_|refine wp_ret' ?_|refine wp_skip' ?_|refine wp_exit' ?_)
      refine wp_ra (by simp [e1,e2,e3,hl,hlt,hct];with_reducible rfl) (by simp;with_reducible rfl) ?_ ?_
      · intro p hp
        simp only [List.mem_cons,List.not_mem_nil,or_false] at hp
        rcases hp with rfl | rfl | rfl | rfl | rfl
        · exact ⟨_,by simp [e1,e2,e3,hl,hlt,hct];with_reducible rfl,by simp⟩
        · exact ⟨_,by simp [e1,e2,e3,hl,hlt,hct];with_reducible rfl,by simp⟩
        · exact ⟨_,by simp [e1,e2,e3,hl,hlt,hct];with_reducible rfl,by simp⟩
        · exact ⟨_,by simp [e1,e2,e3,hl,hlt,hct];with_reducible rfl,by simp⟩
        · exact ⟨_,by simp [e1,e2,e3,hl,hlt,hct];with_reducible rfl,by simp⟩
      repeat (first|apply wp_as|apply wp_ss|refine wr (by simp;with_reducible rfl) ?_|refine wq (by simp;with_reducible rfl) ?_|refine wt (by simpa) ?_|refine wf (by simpa) ?_|refine xt (by simpa) ?_|refine xf (by simpa) ?_|apply wp_bs|apply wp_b|refine wp_sr ?_|refine wp_sx ?_|refine wp_ret' ?_|refine wp_skip' ?_|refine wp_exit' ?_)
      simp [zi219]
    · have e3:=ev_lim (show Ev tb zl204 [] [Z] [] ⟨O2 [],[],[],[]⟩ from ev_clone2 0 [] true (.inr rfl) (by simp))
      simp only [boxW,capsW] at e2 ⊢
      refine call_of_wp zt219 rfl ?_
      repeat (first|apply wp_as|apply wp_ss|refine wr (by simp [e1,hl,hlt];with_reducible rfl) ?_|refine wq (by simp [e1,hl,hlt];with_reducible rfl) ?_|refine wt (by simpa [e1,hl,hlt]) ?_|refine wf (by simpa [e1,hl,hlt]) ?_|refine xt (by simpa [e1,hl,hlt]) ?_|refine xf (by simpa [e1,hl,hlt]) ?_|apply wp_bs|apply wp_b|refine wp_sr ?_|refine wp_sx ?_|refine wp_ret' ?_|refine wp_skip' ?_|refine wp_exit' ?_)
      refine wp_ra (by simp [e1,e2,e3,hl,hlt,hct];with_reducible rfl) (by simp;with_reducible rfl) ?_ ?_
      · intro p hp
        simp only [List.mem_cons,List.not_mem_nil,or_false] at hp
        rcases hp with rfl | rfl | rfl | rfl | rfl
        · exact ⟨_,by simp [e1,e2,e3,hl,hlt,hct];with_reducible rfl,by simp⟩
        · exact ⟨_,by simp [e1,e2,e3,hl,hlt,hct];with_reducible rfl,by simp⟩
        · exact ⟨_,by simp [e1,e2,e3,hl,hlt,hct];with_reducible rfl,by simp⟩
        · exact ⟨_,by simp [e1,e2,e3,hl,hlt,hct];with_reducible rfl,by simp⟩
        · exact ⟨_,by simp [e1,e2,e3,hl,hlt,hct];with_reducible rfl,by simp⟩
      repeat (first|apply wp_as|apply wp_ss|refine wr (by simp;with_reducible rfl) ?_|refine wq (by simp;with_reducible rfl) ?_|refine wt (by simpa) ?_|refine wf (by simpa) ?_|refine xt (by simpa) ?_|refine xf (by simpa) ?_|apply wp_bs|apply wp_b|refine wp_sr ?_|refine wp_sx ?_|refine wp_ret' ?_|refine wp_skip' ?_|refine wp_exit' ?_)
      simp [zi219]
end Go.Idl
namespace Go.Idl
open Go
set_option maxHeartbeats 2000000 in
theorem sg_skip (n:Int) (from_:List (Int×Int)) (c:Bool) (F:Lab) (caps:List IV) (i p q N:Nat) (hi2:i < from_.length) (hfl:from_.length≤900) (hp:from_[i].1=p) (hq:from_[i].2=q) (left:List Int) (hl:left.length=N) (hpN:p < N) (hqN:q < N)
    (hpos:¬ (0 < left[p]∧0 < left[q])) (ch ch':IV) (bs bs':Boxes) (Es:List Boxes) (b:Bool)
    (e1:Ev tb zl219 [] (I ((i+1:Nat):Int)::capsW) (bs::boxW n 2 from_ c F caps left ch::(Es++[[[I p,I q]]])) ⟨Bo b,[],bs'::boxW n 2 from_ c F caps left ch'::(Es++[[[I p,I q]]]),[]⟩) :
    Ev tb zl219 [] (I i::capsW) (bs::boxW n 2 from_ c F caps left ch::Es) ⟨Bo b,[],bs'::boxW n 2 from_ c F caps left ch'::Es,[]⟩:=by
  have hpl:p < left.length:=by omega
  have hql:q < left.length:=by omega
  have hie:¬ (i:Int)=from_.length:=by omega
  have w2:IntKind.i64.wrap ((i:Int)+1)=(i:Int)+1:=wrap64 (by omega) (by omega)
  have e1:=ev_lim e1
  rw [show ((i+1:Nat):Int)=(i:Int)+1 by omega] at e1
  simp only [boxW,capsW] at e1 ⊢
  by_cases hp0:0 < left[p]
  · have hq0:¬ 0 < left[q]:=fun h=>hpos ⟨hp0,h⟩
    refine call_of_wp zt219 rfl ?_
    repeat (first|apply wp_as|apply wp_ss|refine wr (by simp [hi2,hie,hp,hq,hpl,hql,hp0,hq0,w2,e1,hl,hpN,hqN];with_reducible rfl) ?_|refine wq (by simp [hi2,hie,hp,hq,hpl,hql,hp0,hq0,w2,e1,hl,hpN,hqN];with_reducible rfl) ?_|refine wt (by simpa [hi2,hie,hp,hq,hpl,hql,hp0,hq0,w2,e1,hl,hpN,hqN]) ?_|refine wf (by simpa [hi2,hie,hp,hq,hpl,hql,hp0,hq0,w2,e1,hl,hpN,hqN]) ?_|refine xt (by simpa [hi2,hie,hp,hq,hpl,hql,hp0,hq0,w2,e1,hl,hpN,hqN]) ?_|refine xf (by simpa [hi2,hie,hp,hq,hpl,hql,hp0,hq0,w2,e1,hl,hpN,hqN]) ?_|apply wp_bs|apply wp_b|refine wp_sr ?_|refine wp_sx ?_|refine wp_ret' ?_|refine wp_skip' ?_|refine wp_exit' ?_)
    simp [zi219]
  · refine call_of_wp zt219 rfl ?_
    repeat (first|apply wp_as|apply wp_ss|refine wr (by simp [hi2,hie,hp,hq,hpl,hql,hp0,w2,e1,hl,hpN,hqN];with_reducible rfl) ?_|refine wq (by simp [hi2,hie,hp,hq,hpl,hql,hp0,w2,e1,hl,hpN,hqN];with_reducible rfl) ?_|refine wt (by simpa [hi2,hie,hp,hq,hpl,hql,hp0,w2,e1,hl,hpN,hqN]) ?_|refine wf (by simpa [hi2,hie,hp,hq,hpl,hql,hp0,w2,e1,hl,hpN,hqN]) ?_|refine xt (by simpa [hi2,hie,hp,hq,hpl,hql,hp0,w2,e1,hl,hpN,hqN]) ?_|refine xf (by simpa [hi2,hie,hp,hq,hpl,hql,hp0,w2,e1,hl,hpN,hqN]) ?_|apply wp_bs|apply wp_b|refine wp_sr ?_|refine wp_sx ?_|refine wp_ret' ?_|refine wp_skip' ?_|refine wp_exit' ?_)
    simp [zi219]
structure Dec (left l1 l2 l3:List Int) (p q:Nat) (hp:p < left.length) (hq:q < left.length):Prop where
  e1:left.set p (left[p] - 1)=l1
  n1:l1.length=left.length
  g1:∀ h:q < l1.length,l1[q]=left[q]
  e2:l1.set q (left[q] - 1)=l2
  n2:l2.length=left.length
  g2:∀ h:p < l2.length,l2[p]=left[p] - 1
  e3:l2.set p (left[p])=l3
  n3:l3.length=left.length
  g3:∀ h:q < l3.length,l3[q]=left[q] - 1
  e4:l3.set q (left[q])=left
set_option maxHeartbeats 2000000 in
theorem sg_take (n:Int) (from_:List (Int×Int)) (c:Bool) (F:Lab) (caps:List IV) (i p q N:Nat) (hi2:i < from_.length) (hfl:from_.length≤900) (hp:from_[i].1=p) (hq:from_[i].2=q) (left l1 l2 l3:List Int) (hl:left.length=N) (hpN:p < N) (hqN:q < N)
    (hpl:p < left.length) (hql:q < left.length) (hD:Dec left l1 l2 l3 p q hpl hql) (bp:left[p]≤1000) (bq:left[q]≤1000)
    (hp0:0 < left[p]) (hq0:0 < left[q]) (ch ch':IV) (chosen:List (Int×Int)) (hch:EdRep ch chosen) (hcl:chosen.length≤950) (bs bs1 bs':Boxes) (Es:List Boxes) (b1 b:Bool)
    (e1:Ev tb zl219 [] (I ((i+1:Nat):Int)::capsW) (bs::boxW n 2 from_ c F caps l2 (O2 (chosen++[((p:Int),(q:Int))]))::(Es++[[[I p,I q]]])) ⟨Bo b1,[],bs1::boxW n 2 from_ c F caps l2 (O2 (chosen++[((p:Int),(q:Int))]))::(Es++[[[I p,I q]]]),[]⟩)
    (e2:b1=true→Ev tb zl219 [] (I ((i+1:Nat):Int)::capsW) (bs1::boxW n 2 from_ c F caps left (O2 chosen)::(Es++[[[I p,I q]]])) ⟨Bo b,[],bs'::boxW n 2 from_ c F caps left ch'::(Es++[[[I p,I q]]]),[]⟩)
    (e3:b1=false→b=false∧bs'=bs1∧ch'=O2 chosen) :
    Ev tb zl219 [] (I i::capsW) (bs::boxW n 2 from_ c F caps left ch::Es) ⟨Bo b,[],bs'::boxW n 2 from_ c F caps left ch'::Es,[]⟩:=by
  obtain ⟨d1,n1,g1,d2,n2,g2,d3,n3,g3,d4⟩:=hD
  have hie:¬ (i:Int)=from_.length:=by omega
  have w2:IntKind.i64.wrap ((i:Int)+1)=(i:Int)+1:=wrap64 (by omega) (by omega)
  have w3:IntKind.i64.wrap (left[p] - 1)=left[p] - 1:=wrap64 (by omega) (by omega)
  have w4:IntKind.i64.wrap (left[q] - 1)=left[q] - 1:=wrap64 (by omega) (by omega)
  have w5:IntKind.i64.wrap left[p]=left[p]:=wrap64 (by omega) (by omega)
  have w6:IntKind.i64.wrap left[q]=left[q]:=wrap64 (by omega) (by omega)
  have w7:IntKind.i64.wrap (chosen.length:Int)=(chosen.length:Int):=wrap64 (by omega) (by omega)
  have e1:=ev_lim e1
  rw [show ((i+1:Nat):Int)=(i:Int)+1 by omega] at e1
  rw [hl] at n1 n2 n3
  have hcl1:chosen.length+1≤274877906944:=by omega
  have hct:(chosen++[((p:Int),(q:Int))]).take chosen.length=chosen:=by simp
  simp only [boxW,capsW] at e1 ⊢
  cases b1 with
  | false =>
    obtain ⟨rfl,rfl,rfl⟩:=e3 rfl
    rcases hch with rfl | ⟨rfl,rfl⟩
    · refine call_of_wp zt219 rfl ?_
      repeat (first|apply wp_as|apply wp_ss|refine wr (by simp [hi2,hie,hp,hq,hp0,hq0,w2,hl,hpN,hqN,hpl,hql,w3,w4,w5,w6,d1,n1,g1,d2,n2,g2,d3,n3,g3,d4,e1,hcl1,hct,w7,show IntKind.i64.wrap 0=0 from rfl];with_reducible rfl) ?_|refine wq (by simp [hi2,hie,hp,hq,hp0,hq0,w2,hl,hpN,hqN,hpl,hql,w3,w4,w5,w6,d1,n1,g1,d2,n2,g2,d3,n3,g3,d4,e1,hcl1,hct,w7,show IntKind.i64.wrap 0=0 from rfl];with_reducible rfl) ?_|refine wt (by simpa [hi2,hie,hp,hq,hp0,hq0,w2,hl,hpN,hqN,hpl,hql,w3,w4,w5,w6,d1,n1,g1,d2,n2,g2,d3,n3,g3,d4,e1,hcl1,hct,w7,show IntKind.i64.wrap 0=0 from rfl]) ?_|refine wf (by simpa [hi2,hie,hp,hq,hp0,hq0,w2,hl,hpN,hqN,hpl,hql,w3,w4,w5,w6,d1,n1,g1,d2,n2,g2,d3,n3,g3,d4,e1,hcl1,hct,w7,show IntKind.i64.wrap 0=0 from rfl]) ?_|refine xt (by simpa [hi2,hie,hp,hq,hp0,hq0,w2,hl,hpN,hqN,hpl,hql,w3,w4,w5,w6,d1,n1,g1,d2,n2,g2,d3,n3,g3,d4,e1,hcl1,hct,w7,show IntKind.i64.wrap 0=0 from rfl]) ?_|refine xf (by simpa [hi2,hie,hp,hq,hp0,hq0,w2,hl,hpN,hqN,hpl,hql,w3,w4,w5,w6,d1,n1,g1,d2,n2,g2,d3,n3,g3,d4,e1,hcl1,hct,w7,show IntKind.i64.wrap 0=0 from rfl]) ?_|apply wp_bs|apply wp_b|refine wp_sr ?_|refine wp_sx ?_|refine wp_ret' ?_|refine wp_skip' ?_|refine wp_exit' ?_)
      simp [zi219]
    · simp only [List.nil_append,List.length_nil,O2,show eds [((p:Int),(q:Int))]=[[I p,I q]] from rfl] at e1 hcl1 hct w7
      refine call_of_wp zt219 rfl ?_
      repeat (first|apply wp_as|apply wp_ss|refine wr (by simp [hi2,hie,hp,hq,hp0,hq0,w2,hl,hpN,hqN,hpl,hql,w3,w4,w5,w6,d1,n1,g1,d2,n2,g2,d3,n3,g3,d4,e1,hcl1,hct,w7,show IntKind.i64.wrap 0=0 from rfl];with_reducible rfl) ?_|refine wq (by simp [hi2,hie,hp,hq,hp0,hq0,w2,hl,hpN,hqN,hpl,hql,w3,w4,w5,w6,d1,n1,g1,d2,n2,g2,d3,n3,g3,d4,e1,hcl1,hct,w7,show IntKind.i64.wrap 0=0 from rfl];with_reducible rfl) ?_|refine wt (by simpa [hi2,hie,hp,hq,hp0,hq0,w2,hl,hpN,hqN,hpl,hql,w3,w4,w5,w6,d1,n1,g1,d2,n2,g2,d3,n3,g3,d4,e1,hcl1,hct,w7,show IntKind.i64.wrap 0=0 from rfl]) ?_|refine wf (by simpa [hi2,hie,hp,hq,hp0,hq0,w2,hl,hpN,hqN,hpl,hql,w3,w4,w5,w6,d1,n1,g1,d2,n2,g2,d3,n3,g3,d4,e1,hcl1,hct,w7,show IntKind.i64.wrap 0=0 from rfl]) ?_|refine xt (by simpa [hi2,hie,hp,hq,hp0,hq0,w2,hl,hpN,hqN,hpl,hql,w3,w4,w5,w6,d1,n1,g1,d2,n2,g2,d3,n3,g3,d4,e1,hcl1,hct,w7,show IntKind.i64.wrap 0=0 from rfl]) ?_|refine xf (by simpa [hi2,hie,hp,hq,hp0,hq0,w2,hl,hpN,hqN,hpl,hql,w3,w4,w5,w6,d1,n1,g1,d2,n2,g2,d3,n3,g3,d4,e1,hcl1,hct,w7,show IntKind.i64.wrap 0=0 from rfl]) ?_|apply wp_bs|apply wp_b|refine wp_sr ?_|refine wp_sx ?_|refine wp_ret' ?_|refine wp_skip' ?_|refine wp_exit' ?_)
      simp [zi219]
  | true =>
    have e2:=ev_lim (e2 rfl)
    rw [show ((i+1:Nat):Int)=(i:Int)+1 by omega] at e2
    simp only [boxW,capsW] at e2
    rcases hch with rfl | ⟨rfl,rfl⟩
    · refine call_of_wp zt219 rfl ?_
      repeat (first|apply wp_as|apply wp_ss|refine wr (by simp [hi2,hie,hp,hq,hp0,hq0,w2,hl,hpN,hqN,hpl,hql,w3,w4,w5,w6,d1,n1,g1,d2,n2,g2,d3,n3,g3,d4,e1,e2,hcl1,hct,w7,show IntKind.i64.wrap 0=0 from rfl];with_reducible rfl) ?_|refine wq (by simp [hi2,hie,hp,hq,hp0,hq0,w2,hl,hpN,hqN,hpl,hql,w3,w4,w5,w6,d1,n1,g1,d2,n2,g2,d3,n3,g3,d4,e1,e2,hcl1,hct,w7,show IntKind.i64.wrap 0=0 from rfl];with_reducible rfl) ?_|refine wt (by simpa [hi2,hie,hp,hq,hp0,hq0,w2,hl,hpN,hqN,hpl,hql,w3,w4,w5,w6,d1,n1,g1,d2,n2,g2,d3,n3,g3,d4,e1,e2,hcl1,hct,w7,show IntKind.i64.wrap 0=0 from rfl]) ?_|refine wf (by simpa [hi2,hie,hp,hq,hp0,hq0,w2,hl,hpN,hqN,hpl,hql,w3,w4,w5,w6,d1,n1,g1,d2,n2,g2,d3,n3,g3,d4,e1,e2,hcl1,hct,w7,show IntKind.i64.wrap 0=0 from rfl]) ?_|refine xt (by simpa [hi2,hie,hp,hq,hp0,hq0,w2,hl,hpN,hqN,hpl,hql,w3,w4,w5,w6,d1,n1,g1,d2,n2,g2,d3,n3,g3,d4,e1,e2,hcl1,hct,w7,show IntKind.i64.wrap 0=0 from rfl]) ?_|refine xf (by simpa [hi2,hie,hp,hq,hp0,hq0,w2,hl,hpN,hqN,hpl,hql,w3,w4,w5,w6,d1,n1,g1,d2,n2,g2,d3,n3,g3,d4,e1,e2,hcl1,hct,w7,show IntKind.i64.wrap 0=0 from rfl]) ?_|apply wp_bs|apply wp_b|refine wp_sr ?_|refine wp_sx ?_|refine wp_ret' ?_|refine wp_skip' ?_|refine wp_exit' ?_)
      simp [zi219]
    · simp only [List.nil_append,List.length_nil,O2,show eds [((p:Int),(q:Int))]=[[I p,I q]] from rfl] at e1 hcl1 hct w7
      simp only [O2,eds_nil] at e2
      refine call_of_wp zt219 rfl ?_
      repeat (first|apply wp_as|apply wp_ss|refine wr (by simp [hi2,hie,hp,hq,hp0,hq0,w2,hl,hpN,hqN,hpl,hql,w3,w4,w5,w6,d1,n1,g1,d2,n2,g2,d3,n3,g3,d4,e1,e2,hcl1,hct,w7,show IntKind.i64.wrap 0=0 from rfl];with_reducible rfl) ?_|refine wq (by simp [hi2,hie,hp,hq,hp0,hq0,w2,hl,hpN,hqN,hpl,hql,w3,w4,w5,w6,d1,n1,g1,d2,n2,g2,d3,n3,g3,d4,e1,e2,hcl1,hct,w7,show IntKind.i64.wrap 0=0 from rfl];with_reducible rfl) ?_|refine wt (by simpa [hi2,hie,hp,hq,hp0,hq0,w2,hl,hpN,hqN,hpl,hql,w3,w4,w5,w6,d1,n1,g1,d2,n2,g2,d3,n3,g3,d4,e1,e2,hcl1,hct,w7,show IntKind.i64.wrap 0=0 from rfl]) ?_|refine wf (by simpa [hi2,hie,hp,hq,hp0,hq0,w2,hl,hpN,hqN,hpl,hql,w3,w4,w5,w6,d1,n1,g1,d2,n2,g2,d3,n3,g3,d4,e1,e2,hcl1,hct,w7,show IntKind.i64.wrap 0=0 from rfl]) ?_|refine xt (by simpa [hi2,hie,hp,hq,hp0,hq0,w2,hl,hpN,hqN,hpl,hql,w3,w4,w5,w6,d1,n1,g1,d2,n2,g2,d3,n3,g3,d4,e1,e2,hcl1,hct,w7,show IntKind.i64.wrap 0=0 from rfl]) ?_|refine xf (by simpa [hi2,hie,hp,hq,hp0,hq0,w2,hl,hpN,hqN,hpl,hql,w3,w4,w5,w6,d1,n1,g1,d2,n2,g2,d3,n3,g3,d4,e1,e2,hcl1,hct,w7,show IntKind.i64.wrap 0=0 from rfl]) ?_|apply wp_bs|apply wp_b|refine wp_sr ?_|refine wp_sx ?_|refine wp_ret' ?_|refine wp_skip' ?_|refine wp_exit' ?_)
      simp [zi219]
theorem dec_ok {left:List Int} {p q:Nat} (hp:p < left.length) (hq:q < left.length) (hpq:p ≠ q) :
    Dec left (left.set p (left[p] - 1)) (decAt (decAt left p) q) ((decAt (decAt left p) q).set p left[p]) p q hp hq:=by
  have gp:left.getD p 0=left[p]:=by simp [List.getD_eq_getElem?_getD,List.getElem?_eq_getElem hp]
  have h1:decAt left p=left.set p (left[p] - 1):=by rw [decAt,gp]
  have gq:(left.set p (left[p] - 1)).getD q 0=left[q]:=by
    rw [List.getD_eq_getElem?_getD,List.getElem?_set,if_neg hpq,List.getElem?_eq_getElem hq];rfl
  have h2:decAt (decAt left p) q=(left.set p (left[p] - 1)).set q (left[q] - 1):=by
    rw [h1,decAt,gq]
  rw [h2]
  refine ⟨rfl,by simp,fun h=>?_,rfl,by simp,fun h=>?_,rfl,by simp,fun h=>?_,?_⟩
  · rw [List.getElem_set_ne hpq]
  · rw [List.getElem_set_ne hpq.symm,List.getElem_set_self]
  · rw [List.getElem_set_ne hpq,List.getElem_set_self]
  · refine List.ext_getElem (by simp) fun k k1 k2=>?_
    rw [List.getElem_set,List.getElem_set,List.getElem_set,List.getElem_set]
    split
    · subst_vars;rfl
    · split
      · subst_vars;rfl
      · rfl
end Go.Idl
namespace Go.Idl
open Go
theorem subs_len:∀ (r:List (Int×Int)) (left:List Int) (ch:List (Int×Int)),(subs r left ch).length≤2 ^ r.length
  | [],left,ch=>by rw [subs];split <;> simp
  | e::r,left,ch=>by
    have h1:=subs_len r (decAt (decAt left e.1.toNat) e.2.toNat) (ch++[e])
    have h2:=subs_len r left ch
    rw [subs,List.length_append,List.length_cons,Nat.pow_succ]
    split
    · omega
    · simp;omega
theorem upTo_true (l:List (List (Int×Int))):upTo (fun _=>true) l=(l,true):=by
  induction l with
  | nil=>rfl
  | cons g r ih=>simp [upTo,ih]
theorem upTo_len (more):∀ l:List (List (Int×Int)),(upTo more l).1.length≤l.length
  | []=>by simp [upTo]
  | g::r=>by
    have:=upTo_len more r
    rw [upTo]
    split
    · simp;exact this
    · simp
theorem decAt_len (o:List Int) (i:Nat):(decAt o i).length=o.length:=by simp [decAt]
theorem sg_walk (n:Int) (e0:Nat) (from_:List (Int×Int)) (c:Bool) (F:Lab) (caps:List IV) (more:List (Int×Int)→Bool) (P:List (List (Int×Int))→Boxes→Prop) (hcb:CallsBack n F caps more P) (N:Nat)
    (hfr:∀ e ∈ from_,0≤e.1∧e.1 < e.2∧e.2 < N) (hfl:from_.length≤900) (hN:N≤1000) (he0:e0=2 ∨ from_=[]):∀ (m i:Nat) (left:List Int) (ch:IV) (chosen:List (Int×Int)) (gl:List (List (Int×Int))) (bs:Boxes) (Es:List Boxes),i+m=from_.length→P gl bs→EdRep ch chosen →
    left.length=N→(∀ x ∈ left,x≤1000)→chosen.length+m≤950→gl.length+2 ^ m≤10000000 →
    ∃ ch' bs',EdRep ch' chosen∧P (gl++(upTo more (subs (from_.drop i) left chosen)).1) bs' ∧
      Ev tb zl219 [] (I i::capsW) (bs::boxW n e0 from_ c F caps left ch::Es) ⟨Bo (upTo more (subs (from_.drop i) left chosen)).2,[],bs'::boxW n e0 from_ c F caps left ch'::Es,[]⟩:=by
  intro m
  induction m with
  | zero =>
    intro i left ch chosen gl bs Es hi hP hch hl hlb hcl hgl
    have h3:i=from_.length:=hi
    subst h3
    rw [List.drop_length]
    exact sg_end n e0 from_ c F caps more P hcb N hN hfl left ch chosen gl bs Es hP (by omega) hch hl (by omega)
  | succ m ih =>
    intro i left ch chosen gl bs Es hi hP hch hl hlb hcl hgl
    have hi2:i < from_.length:=by omega
    have he2:e0=2:=he0.resolve_right fun h=>by rw [h] at hi2;simp at hi2
    subst he2
    have hd:from_.drop i=from_[i]::from_.drop (i+1):=List.drop_eq_getElem_cons hi2
    rw [Nat.pow_succ] at hgl
    obtain ⟨hf1,hf2,hf3⟩:=hfr _ (List.getElem_mem hi2)
    obtain ⟨p,hp⟩:=Int.eq_ofNat_of_zero_le hf1
    obtain ⟨q,hq⟩:=Int.eq_ofNat_of_zero_le (show 0≤from_[i].2 by omega)
    have hpl:p < left.length:=by omega
    have hql:q < left.length:=by omega
    have hpq:p ≠ q:=by omega
    have gp:left.getD p 0=left[p]:=by simp [List.getD_eq_getElem?_getD,List.getElem?_eq_getElem hpl]
    have gq:left.getD q 0=left[q]:=by simp [List.getD_eq_getElem?_getD,List.getElem?_eq_getElem hql]
    have he:from_[i]=((p:Int),(q:Int)):=Prod.ext hp hq
    rw [hd,subs]
    have tp:from_[i].1.toNat=p:=by omega
    have tq:from_[i].2.toNat=q:=by omega
    rw [tp,tq,gp,gq]
    by_cases hpos:0 < left[p]∧0 < left[q]
    rotate_left
    · rw [if_neg hpos,List.nil_append]
      obtain ⟨ch',bs',k1,k2,k3⟩:=ih (i+1) left ch chosen gl bs (Es++[[[I p,I q]]]) (by omega) hP hch hl hlb (by omega) (by omega)
      exact ⟨ch',bs',k1,k2,sg_skip n from_ c F caps i p q N hi2 hfl hp hq left hl (by omega) (by omega) hpos ch ch' bs bs' Es _ k3⟩
    · rw [if_pos hpos,he]
      have hD:=dec_ok hpl hql hpq
      have hlb2:∀ x ∈ decAt (decAt left p) q,x≤1000:=fun x hx=>by
        have one:∀ (o:List Int) (k:Nat),(∀ x ∈ o,x≤1000)→∀ x ∈ decAt o k,x≤1000:=fun o k ho x hx=>by
          rcases List.mem_or_eq_of_mem_set hx with hx | rfl
          · exact ho x hx
          · rw [List.getD_eq_getElem?_getD]
            cases ho2:o[k]? with
            | none=>simp
            | some y=>have:=ho y (List.mem_of_getElem? ho2);simp;omega
        exact one _ q (one _ p hlb) x hx
      obtain ⟨ch1,bs1,k1,k2,k3⟩:=ih (i+1) (decAt (decAt left p) q) (O2 (chosen++[((p:Int),(q:Int))])) (chosen++[((p:Int),(q:Int))]) gl bs (Es++[[[I p,I q]]]) (by omega) hP (.inl rfl) (by rw [decAt_len,decAt_len];exact hl) hlb2 (by simp;omega) (by omega)
      have hc1:ch1=O2 (chosen++[((p:Int),(q:Int))]):=by
        rcases k1 with k1 | ⟨k1,_⟩
        · exact k1
        · simp at k1
      subst hc1
      rw [upTo_app]
      obtain ⟨b1,hb1⟩:∃ b1,b1=(upTo more (subs (from_.drop (i+1)) (decAt (decAt left p) q) (chosen++[((p:Int),(q:Int))]))).2:=⟨_,rfl⟩
      rw [← hb1] at k3 ⊢
      have bp:=hlb _ (List.getElem_mem hpl)
      have bq:=hlb _ (List.getElem_mem hql)
      cases b1 with
      | false =>
        simp only [Bool.false_eq_true,if_false]
        rw [← hb1]
        refine ⟨O2 chosen,bs1,.inl rfl,k2,?_⟩
        exact sg_take n from_ c F caps i p q N hi2 hfl hp hq left _ _ _ hl (by omega) (by omega) hpl hql hD bp bq hpos.1 hpos.2 ch (O2 chosen) chosen hch (by omega) bs bs1 bs1 Es false false k3 (fun h=>by cases h) (fun _=>⟨rfl,rfl,rfl⟩)
      | true =>
        simp only [if_true]
        have hgl2:(gl++(upTo more (subs (from_.drop (i+1)) (decAt (decAt left p) q) (chosen++[((p:Int),(q:Int))]))).1).length+2 ^ m≤10000000:=by
          have h1:=upTo_len more (subs (from_.drop (i+1)) (decAt (decAt left p) q) (chosen++[((p:Int),(q:Int))]))
          have h2:=subs_len (from_.drop (i+1)) (decAt (decAt left p) q) (chosen++[((p:Int),(q:Int))])
          rw [List.length_drop,show from_.length - (i+1)=m by omega] at h2
          rw [List.length_append];omega
        obtain ⟨ch2,bs2,j1,j2,j3⟩:=ih (i+1) left (O2 chosen) chosen _ bs1 (Es++[[[I p,I q]]]) (by omega) k2 (.inl rfl) hl hlb (by omega) hgl2
        refine ⟨ch2,bs2,j1,by rw [← List.append_assoc];exact j2,?_⟩
        exact sg_take n from_ c F caps i p q N hi2 hfl hp hq left _ _ _ hl (by omega) (by omega) hpl hql hD bp bq hpos.1 hpos.2 ch ch2 chosen hch (by omega) bs bs1 bs2 Es true _ k3 (fun _=>j3) (fun h=>by cases h)
theorem ev_subgraphs (n:Int) (e0:Nat) (from_:List (Int×Int)) (c:Bool) (d:List Int) (cd:Bool) (F:Lab) (caps:List IV) (more:List (Int×Int)→Bool) (P:List (List (Int×Int))→Boxes→Prop) (hcb:CallsBack n F caps more P)
    (he0:e0=2 ∨ from_=[]) (hfr:∀ e ∈ from_,0≤e.1∧e.1 < e.2∧e.2 < d.length) (hfl:from_.length≤21) (hN:d.length≤1000) (hd:∀ x ∈ d,x≤1000) (bs:Boxes) (hP:P [] bs) :
    ∃ bs',P (upTo more (subs from_ d [])).1 bs'∧Ev tb zl218 [] [I n,.lst e0 (eds from_) c,L d cd,.fn F caps] [bs] ⟨.tup [],[],[bs'],[]⟩:=by
  obtain ⟨ch',bs',k1,k2,k3⟩:=sg_walk n e0 from_ c F caps more P hcb d.length hfr (by omega) hN he0 from_.length 0 d Z [] [] bs [] (by simp) hP (.inr ⟨rfl,rfl⟩) rfl hd (by simp;omega) (by
    have:=Nat.pow_le_pow_right (show 0 < 2 by decide) hfl
    simp only [List.length_nil];omega)
  refine ⟨bs',by simpa using k2,?_⟩
  have e1:=ev_lim k3
  have e2:=ev_lim (ev_clone d cd (by omega))
  simp only [boxW,capsW] at e1
  rw [show ((0:Nat):Int)=0 from rfl] at e1
  refine call_of_wp zt218 rfl ?_
  repeat (first|apply wp_as|apply wp_ss|refine wr (by simp [e1,e2];with_reducible rfl) ?_|refine wq (by simp [e1,e2];with_reducible rfl) ?_|refine wt (by simpa [e1,e2]) ?_|refine wf (by simpa [e1,e2]) ?_|refine xt (by simpa [e1,e2]) ?_|refine xf (by simpa [e1,e2]) ?_|apply wp_bs|apply wp_b|refine wp_sr ?_|refine wp_sx ?_|refine wp_ret' ?_|refine wp_skip' ?_|refine wp_exit' ?_)
  simp [zi218]
end Go.Idl
namespace Go.Idl
open Go
def gls (n:Int) (gl:List (List (Int×Int))):List (List IV):=gl.map fun es=>[I n,O2 es]
@[simp] theorem gls_len (n:Int) (gl):(gls n gl).length=gl.length:=by simp [gls]
@[simp] theorem gls_one (n:Int) (gl) (es:List (Int×Int)):gls n gl++[[IV.sc (.int .i64 n),.own 2 (eds es)]]=gls n (gl++[es]):=by simp [gls]
@[simp] theorem gls_emp (n:Int) (gl):(gls n gl).isEmpty=gl.isEmpty:=by cases gl <;> rfl
@[simp] theorem gls_take (n:Int) (gl) (k:Nat):(gls n gl).take k=gls n (gl.take k):=by simp [gls,List.map_take]
@[simp] theorem gls_all (n:Int) (gl):((gls n gl).all fun x=>x.all IV.isData)=true:=by
  induction gl with
  | nil=>rfl
  | cons x xs ih=>simp only [gls,List.map_cons,List.all_cons] at *;rw [ih];rfl
@[simp] theorem gls_noLst (n:Int) (gl):noLstLL (gls n gl)=true:=by
  induction gl with
  | nil=>rfl
  | cons x xs ih=>simp only [gls,List.map_cons,noLstLL,noLstL,noLstV,eds_noLst] at *;rw [ih];rfl
theorem ev_listed (d:List Int) (c:Bool) (k:Int) (hl:d.length≤2000000):Ev tb zl213 [] [L d c,I k] [] ⟨Bo (valid d && decide ((d.length:Int)≤k)),[],[],[]⟩:=by
  have e1:=ev_lim (ev_ValidDegrees d c hl)
  cases hv:valid d with
  | false =>
    rw [hv] at e1
    refine call_of_wp zt213 rfl ?_
    repeat (first|apply wp_as|apply wp_ss|refine wr (by simp [e1];with_reducible rfl) ?_|refine wq (by simp [e1];with_reducible rfl) ?_|refine wt (by simpa [e1]) ?_|refine wf (by simpa [e1]) ?_|refine xt (by simpa [e1]) ?_|refine xf (by simpa [e1]) ?_|apply wp_bs|apply wp_b|refine wp_sr ?_|refine wp_sx ?_|refine wp_ret' ?_|refine wp_skip' ?_|refine wp_exit' ?_)
    simp [zi213]
  | true =>
    rw [hv] at e1
    refine call_of_wp zt213 rfl ?_
    repeat (first|apply wp_as|apply wp_ss|refine wr (by simp [e1];with_reducible rfl) ?_|refine wq (by simp [e1];with_reducible rfl) ?_|refine wt (by simpa [e1]) ?_|refine wf (by simpa [e1]) ?_|refine xt (by simpa [e1]) ?_|refine xf (by simpa [e1]) ?_|apply wp_bs|apply wp_b|refine wp_sr ?_|refine wp_sx ?_|refine wp_ret' ?_|refine wp_skip' ?_|refine wp_exit' ?_)
    simp [zi213]
theorem prs21:∀ n,n≤7→(prs n).length≤21:=by decide +kernel
def reals (d:List Int):List (List (Int×Int)):=subs (prs d.length) d []
end Go.Idl
namespace Go.Idl
open Go
theorem count_F1 (n:Int) (k:Nat) (es:List (Int×Int)) (B:Boxes) (Es:List Boxes) (hk:k≤100000000) :
    Ev tb zl159 [] [.agg [I n,O2 es],.bptr 0 0 0] ([[I k]]::B::Es) ⟨Bo true,[],[[I ((k+1:Nat):Int)]]::B::Es,[]⟩:=by
  have w1:IntKind.i64.wrap ((k:Int)+1)=((k+1:Nat):Int):=wrapS (by omega)
  refine call_of_wp zt159 rfl ?_
  repeat (first|apply wp_as|apply wp_ss|refine wr (by simp [w1];with_reducible rfl) ?_|refine wq (by simp [w1];with_reducible rfl) ?_|refine wt (by simpa [w1]) ?_|refine wf (by simpa [w1]) ?_|refine xt (by simpa [w1]) ?_|refine xf (by simpa [w1]) ?_|apply wp_bs|apply wp_b|refine wp_sr ?_|refine wp_sx ?_|refine wp_ret' ?_|refine wp_skip' ?_|refine wp_exit' ?_)
  simp [zi159]
theorem calls_count (n:Int):CallsBack n zl159 [.bptr 0 0 0] (fun _=>true) (fun gl bs=>bs=[[I gl.length]]):=by
  intro gl bs es hP hl he
  exact ⟨[[I (gl.length+1:Nat)]],by simp,fun B Es=>by rw [hP];exact count_F1 n gl.length es B Es (by omega)⟩
theorem ev_CountRealizations (d:List Int) (c:Bool) (hv:valid d=true) (h6:d.length≤6):Ev tb zl158 [] [L d c] [] ⟨I (reals d).length,[],[],[]⟩:=by
  have hf:=valid_few hv
  have e1:=ev_lim (ev_listed d c 6 (by omega))
  rw [hv,decide_eq_true (by omega:(d.length:Int)≤6),Bool.true_and] at e1
  have e2:=ev_lim (ev_impl_pairs d.length (by omega))
  have hpl:=prs21 d.length (by omega)
  have hin:∀ e ∈ prs d.length,0≤e.1∧e.1 < e.2∧e.2 < d.length:=fun e he=>mem_prs.1 he
  obtain ⟨bs',k1,k2⟩:∃ bs',(fun (gl:List (List (Int×Int))) bs=>bs=[[I gl.length]]) (upTo (fun _=>true) (reals d)).1 bs'∧Ev tb zl218 [] [I d.length,match nl2 (prs d.length) with | .own e x=>.lst e x false | x=>x,L d c,.fn zl159 [.bptr 0 0 0]] [[[I 0]]] ⟨.tup [],[],[bs'],[]⟩:=by
    unfold reals
    cases hq:prs d.length with
    | nil=>exact ev_subgraphs d.length 0 [] true d c _ _ _ _ (calls_count d.length) (.inr rfl) (by simp) (by simp) (by omega) (fun x hx=>by have:=hf.2 x hx;omega) [[I 0]] rfl
    | cons e r =>
      rw [hq] at hin hpl
      exact ev_subgraphs d.length 2 (e::r) false d c _ _ _ _ (calls_count d.length) (.inl rfl) hin hpl (by omega) (fun x hx=>by have:=hf.2 x hx;omega) [[I 0]] rfl
  rw [upTo_true] at k1
  simp only at k1
  subst k1
  have e3:=ev_lim k2
  generalize (reals d).length=m at *
  cases hq:prs d.length with
  | nil =>
    rw [hq] at e2 e3
    simp only [nl2_nil] at e2 e3
    refine call_of_wp zt158 rfl ?_
    repeat (first|apply wp_as|apply wp_ss|refine wr (by simp [e1,e2,e3];with_reducible rfl) ?_|refine wq (by simp [e1,e2,e3];with_reducible rfl) ?_|refine wt (by simpa [e1,e2,e3]) ?_|refine wf (by simpa [e1,e2,e3]) ?_|refine xt (by simpa [e1,e2,e3]) ?_|refine xf (by simpa [e1,e2,e3]) ?_|apply wp_bs|apply wp_b|refine wp_sr ?_|refine wp_sx ?_|refine wp_ret' ?_|refine wp_skip' ?_|refine wp_exit' ?_)
    simp [zi158]
  | cons e r =>
    rw [hq] at e2 e3
    simp only [nl2_cons] at e2 e3
    have hT:(e::r).take (r.length+1)=e::r:=List.take_of_length_le (by simp)
    refine call_of_wp zt158 rfl ?_
    repeat (first|apply wp_as|apply wp_ss|refine wr (by simp [e1,e2,e3,hT];with_reducible rfl) ?_|refine wq (by simp [e1,e2,e3,hT];with_reducible rfl) ?_|refine wt (by simpa [e1,e2,e3,hT]) ?_|refine wf (by simpa [e1,e2,e3,hT]) ?_|refine xt (by simpa [e1,e2,e3,hT]) ?_|refine xf (by simpa [e1,e2,e3,hT]) ?_|apply wp_bs|apply wp_b|refine wp_sr ?_|refine wp_sx ?_|refine wp_ret' ?_|refine wp_skip' ?_|refine wp_exit' ?_)
    simp [zi158]
abbrev GF:=List (List (Int×Int)×Bool)
def glf (n:Int) (R:GF):List (List IV):=R.map fun x=>[I n,L2 x.1 x.2]
@[simp] theorem glf_len (n:Int) (R:GF):(glf n R).length=R.length:=by simp [glf]
@[simp] theorem glf_nil (n:Int):glf n []=[]:=rfl
@[simp] theorem glf_app (n:Int) (R S:GF):glf n R++glf n S=glf n (R++S):=by simp [glf]
@[simp] theorem glf_take (n:Int) (R:GF) (k:Nat):(glf n R).take k=glf n (R.take k):=by simp [glf,List.map_take]
@[simp] theorem glf_all (n:Int) (R:GF):((glf n R).all fun x=>x.all IV.isData)=true:=by
  induction R with
  | nil=>rfl
  | cons x xs ih=>simp only [glf,List.map_cons,List.all_cons] at *;rw [ih];rfl
end Go.Idl
namespace Go.Idl
def insC {α:Type} (lt:α→α→Bool) (x:α):List α→List α→List α
  | [],B=>x::B
  | a::r,B=>if lt x a then insC lt x r (a::B) else r.reverse++a::x::B
def srtC {α:Type} (lt:α→α→Bool):List α→List α→List α
  | S,[]=>S
  | S,x::r=>srtC lt (insC lt x S.reverse []) r
theorem insC_perm {α:Type} (lt:α→α→Bool) (x:α):∀ (r B:List α),(insC lt x r B).Perm (r.reverse++x::B)
  | [],B=>.refl _
  | a::r,B=>by
    unfold insC
    split
    · refine (insC_perm lt x r (a::B)).trans ?_
      rw [List.reverse_cons,List.append_assoc]
      exact List.Perm.append_left _ (.swap _ _ _)
    · rw [List.reverse_cons,List.append_assoc]
      exact .refl _
abbrev Srt {α:Type} (lt:α→α→Bool) (l:List α):Prop:=l.Pairwise fun a b=>lt b a=false
theorem insC_srt {α:Type} {lt:α→α→Bool} (ht:∀ a b c,lt b a=false→lt c b=false→lt c a=false) (ha:∀ a b,lt a b=true→lt b a=false) (x:α):∀ (r B:List α),Srt lt (r.reverse++B)→(∀ b ∈ B,lt x b=true)→Srt lt (insC lt x r B)
  | [],B,h,hb=>List.pairwise_cons.2 ⟨fun b hb'=>ha _ _ (hb b hb'),by simpa using h⟩
  | a::r,B,h,hb=>by
    rw [List.reverse_cons,List.append_assoc] at h
    unfold insC
    split
    · rename_i hx
      refine insC_srt ht ha x r (a::B) h fun b hb'=>?_
      rcases List.mem_cons.1 hb' with rfl | hb'
      · exact hx
      · exact hb b hb'
    · rename_i hx
      have hx:lt x a=false:=by simpa using hx
      obtain ⟨h1,h2,h3⟩:=List.pairwise_append.1 (show Srt lt (r.reverse++a::B) from h)
      have h2:=List.pairwise_cons.1 h2
      refine List.pairwise_append.2 ⟨h1,?_,fun p hp q hq=>?_⟩
      · refine List.pairwise_cons.2 ⟨fun q hq=>?_,List.pairwise_cons.2 ⟨fun b hb'=>ha _ _ (hb b hb'),h2.2⟩⟩
        rcases List.mem_cons.1 hq with rfl | hq
        · exact hx
        · exact h2.1 q hq
      · have h4:=h3 p hp a (by simp)
        rcases List.mem_cons.1 hq with rfl | hq
        · exact h4
        · rcases List.mem_cons.1 hq with rfl | hq
          · exact ht _ _ _ h4 hx
          · exact h3 p hp q (by simp [hq])
theorem srtC_ok {α:Type} {lt:α→α→Bool} (ht:∀ a b c,lt b a=false→lt c b=false→lt c a=false) (ha:∀ a b,lt a b=true→lt b a=false):∀ (r S:List α),Srt lt S→Srt lt (srtC lt S r)∧(srtC lt S r).Perm (S++r)
  | [],S,h=>⟨h,by simp [srtC]⟩
  | x::r,S,h=>by
    obtain ⟨h1,h2⟩:=srtC_ok ht ha r (insC lt x S.reverse []) (insC_srt ht ha x _ _ (by simpa using h) (by simp))
    refine ⟨h1,h2.trans ?_⟩
    have:=insC_perm lt x S.reverse []
    rw [List.reverse_reverse] at this
    refine (this.append_right r).trans ?_
    rw [List.append_assoc];exact .refl _
theorem srtC_perm {α:Type} (lt:α→α→Bool):∀ (r S:List α),(srtC lt S r).Perm (S++r)
  | [],S=>by simp [srtC]
  | x::r,S=>by
    refine (srtC_perm lt r _).trans ?_
    have:=insC_perm lt x S.reverse []
    rw [List.reverse_reverse] at this
    refine (this.append_right r).trans ?_
    rw [List.append_assoc];exact .refl _
end Go.Idl
namespace Go.Idl
structure Seg {α:Type} (X X':List α) (a b:Nat):Prop where
  perm:X'.Perm X
  out:∀ k,k < a ∨ b≤k→X'[k]? = X[k]?
theorem Seg.len {α:Type} {X X':List α} {a b:Nat} (h:Seg X X' a b):X'.length=X.length:=h.perm.length_eq
theorem Seg.refl {α:Type} (X:List α) (a b:Nat):Seg X X a b:=⟨.refl _,fun _ _=>rfl⟩
theorem Seg.trans {α:Type} {X Y Z:List α} {a b:Nat} (h:Seg X Y a b) (k:Seg Y Z a b):Seg X Z a b:=⟨k.perm.trans h.perm,fun i hi=>(k.out i hi).trans (h.out i hi)⟩
theorem Seg.mono {α:Type} {X Y:List α} {a b a' b':Nat} (h:Seg X Y a b) (h1:a'≤a) (h2:b≤b'):Seg X Y a' b':=⟨h.perm,fun i hi=>h.out i (by omega)⟩
theorem Seg.nodup {α:Type} {X Y:List α} {a b:Nat} (h:Seg X Y a b) (hn:X.Nodup):Y.Nodup:=h.perm.nodup_iff.2 hn
def swapL {α:Type} (X:List α) (i j:Nat) (hi:i < X.length) (hj:j < X.length):List α:=(X.set i X[j]).set j X[i]
theorem swapL_len {α:Type} (X:List α) (i j:Nat) (hi hj):(swapL X i j hi hj).length=X.length:=by simp [swapL]
theorem swapL_get {α:Type} (X:List α) (i j:Nat) (hi:i < X.length) (hj:j < X.length) (k:Nat):(swapL X i j hi hj)[k]? = if k=j then some X[i] else if k=i then some X[j] else X[k]?:=by
  rw [swapL,List.getElem?_set,List.getElem?_set]
  by_cases h1:k=j
  · subst h1;simp [hj]
  · by_cases h2:k=i
    · subst h2;simp [hi,h1,Ne.symm h1]
    · simp [h1,h2,Ne.symm h1,Ne.symm h2]
theorem swapL_perm {α:Type} (X:List α) (i j:Nat) (hi:i < X.length) (hj:j < X.length):(swapL X i j hi hj).Perm X:=by
  exact List.set_set_perm hi hj
theorem swapL_seg {α:Type} (X:List α) (i j a b:Nat) (hi:i < X.length) (hj:j < X.length) (h1:a≤i∧i < b) (h2:a≤j∧j < b):Seg X (swapL X i j hi hj) a b :=
  ⟨swapL_perm X i j hi hj,fun k hk=>by rw [swapL_get,if_neg (by omega),if_neg (by omega)]⟩
theorem Seg.back {α:Type} {X Y:List α} {a b:Nat} (h:Seg X Y a b) (hn:X.Nodup) {k:Nat} (hk:a≤k∧k < b) {e:α} (he:Y[k]? = some e):∃ l,(a≤l∧l < b)∧X[l]? = some e:=by
  have hm:e ∈ X:=h.perm.mem_iff.1 (List.mem_of_getElem? he)
  obtain ⟨l,hl,rfl⟩:=List.getElem_of_mem hm
  by_cases hlb:a≤l∧l < b
  · exact ⟨l,hlb,List.getElem?_eq_getElem hl⟩
  · have h1:=h.out l (by omega)
    rw [List.getElem?_eq_getElem hl] at h1
    have hny:=h.nodup hn
    have hkl:k < Y.length:=(List.getElem?_eq_some_iff.1 he).1
    have hll:l < Y.length:=by rw [h.len];exact hl
    have h2:=(List.getElem?_eq_some_iff.1 he).2
    have h3:=(List.getElem?_eq_some_iff.1 h1).2
    have h4:k=l:=(List.getElem_inj hny).1 (h2.trans h3.symm)
    omega
end Go.Idl
namespace Go.Idl
open Go
def BelowOn (X:List (Int×Int)) (lo hi:Nat) (x:Int×Int):Prop:=∀ k e,lo≤k→k < hi→X[k]? = some e→below e x=true
def AboveOn (X:List (Int×Int)) (lo hi:Nat) (x:Int×Int):Prop:=∀ k e,lo≤k→k < hi→X[k]? = some e→below e x=false
theorem AboveOn.cons {X:List (Int×Int)} {lo hi:Nat} {x:Int×Int} (h:AboveOn X (lo+1) hi x) (hl:lo < X.length) (hb:below X[lo] x=false):AboveOn X lo hi x:=fun k e h1 h2 he=>by
  by_cases hk:k=lo
  · subst hk
    rw [List.getElem?_eq_getElem hl] at he
    cases he;exact hb
  · exact h k e (by omega) h2 he
structure PInv (X0 X:List (Int×Int)) (a b i j:Nat) (x:Int×Int):Prop where
  seg:Seg X0 X a b
  piv:X[a]? = some x
  lo:BelowOn X (a+1) i x
  hi:AboveOn X (j+1) b x
  ai:a+1≤i
  ij:i≤j+1
  jb:j < b
  bl:b≤X.length
theorem PInv.al {X0 X a b i j x} (h:PInv X0 X a b i j x):a < X.length:=(List.getElem?_eq_some_iff.1 h.piv).1
theorem PInv.xa {X0 X a b i j x} (h:PInv X0 X a b i j x):X[a]'h.al=x:=(List.getElem?_eq_some_iff.1 h.piv).2
theorem PInv.swap {X0 X a b i j x} (h:PInv X0 X a b i j x) (hi:i < X.length) (hj:j < X.length) (hij:i≤j) (h1:below X[i] x=false) (h2:below X[j] x=true) :
    ∃ q,j=q+1∧i < j∧PInv X0 (swapL X i j hi hj) a b (i+1) q x:=by
  have hne:i ≠ j:=by rintro rfl;rw [h1] at h2;cases h2
  have hb:=h.bl
  have hjb:=h.jb
  have hai:=h.ai
  refine ⟨j - 1,by omega,by omega,h.seg.trans (swapL_seg X i j a b hi hj (by omega) (by omega)),?_,?_,?_,by omega,by omega,by omega,by rw [swapL_len];exact hb⟩
  · rw [swapL_get,if_neg (by omega),if_neg (by omega)];exact h.piv
  · intro k e k1 k2 he
    rw [swapL_get,if_neg (by omega)] at he
    by_cases hk:k=i
    · rw [if_pos hk] at he
      cases he;exact h2
    · rw [if_neg hk] at he
      exact h.lo k e k1 (by omega) he
  · intro k e k1 k2 he
    rw [swapL_get] at he
    by_cases hk:k=j
    · rw [if_pos hk] at he
      cases he;exact h1
    · rw [if_neg hk,if_neg (by omega)] at he
      exact h.hi k e (by omega) k2 he
theorem PInv.fin {X0 X a b j x} (h:PInv X0 X a b (j+1) j x) (hj:j < X.length):Seg X0 (swapL X j a hj h.al) a b∧(swapL X j a hj h.al)[j]? = some x∧BelowOn (swapL X j a hj h.al) a j x∧AboveOn (swapL X j a hj h.al) (j+1) b x:=by
  have hb:=h.bl
  have hjb:=h.jb
  have hai:=h.ai
  have hxa:=h.xa
  refine ⟨h.seg.trans (swapL_seg X j a a b hj h.al (by omega) (by omega)),?_,fun k e k1 k2 he=>?_,fun k e k1 k2 he=>?_⟩
  · rw [swapL_get]
    by_cases hja:j=a
    · subst hja;rw [if_pos rfl,hxa]
    · rw [if_neg hja,if_pos rfl,hxa]
  · rw [swapL_get] at he
    by_cases hka:k=a
    · rw [if_pos hka] at he
      cases he
      exact h.lo j _ (by omega) (by omega) (List.getElem?_eq_getElem hj)
    · rw [if_neg hka,if_neg (by omega)] at he
      exact h.lo k e (by omega) (by omega) he
  · rw [swapL_get,if_neg (by omega),if_neg (by omega)] at he
    exact h.hi k e k1 k2 he
end Go.Idl
namespace Go.Idl
open Go
structure SmallG (n:Int) (es:List (Int×Int)):Prop where
  n1:-1≤n
  n2:n≤8
  len:es.length≤60
  el:∀ e ∈ es,-1≤e.1∧e.1≤8∧-1≤e.2∧e.2≤8
theorem SmallG.fit {n es} (h:SmallG n es):Fit es:=fun e he=>by have:=h.el e he;omega
end Go.Idl
namespace Go.Idl
open Go
def idxB (n:Nat) (but:Int):List Int:=((List.range n).map fun v:Nat=>(v:Int)).filter fun v=>decide (v ≠ but)
end Go.Idl
namespace Go.Idl
open Go
def gtD (d:List Int) (a b:Int):Bool:=decide (d.getD b.toNat 0 < d.getD a.toNat 0)
def topD (d:List Int) (from_:List Int) (k:Nat):List Int:=(srtC (gtD d) [] from_).take k
end Go.Idl
namespace Go.Idl
theorem deg_degs {n:Nat} {s:List (Int×Int)} (hs:s.Sublist (prs n)) {d:List Int} (hl:d.length=n):(∀ v,v < n→deg s v=d.getD v 0) ↔ degs n s=d:=by
  rw [degs_eq (prs_in hs)]
  constructor
  · intro h
    refine List.ext_getElem (by simp [hl]) fun v h1 h2=>?_
    rw [List.getElem_map,List.getElem_range,h v (by omega),List.getD_eq_getElem?_getD,List.getElem?_eq_getElem h2];rfl
  · intro h v hv
    rw [← h,List.getD_eq_getElem?_getD,List.getElem?_map,List.getElem?_range hv];rfl
theorem mem_reals {d:List Int} (h7:d.length≤7) (g:List (Int×Int)):g ∈ reals d ↔ vGraph d.length g=true∧degs d.length g=d:=by
  rw [reals,mem_subs (N:=d.length) _ _ _ _ (fun e he=>mem_prs.1 he) rfl]
  constructor
  · rintro ⟨s,hs,rfl,hd⟩
    exact ⟨vG_iff.2 ⟨(prs_pw _).sublist hs,fun e he=>hs.mem he,h7⟩,(deg_degs hs rfl).1 hd⟩
  · rintro ⟨h1,h2⟩
    exact ⟨g,vG_sub h1,rfl,(deg_degs (vG_sub h1) rfl).2 h2⟩
end Go.Idl
namespace Go.Idl
def hv:Nat→List Int→Bool
  | 0,_=>true
  | _+1,[]=>true
  | m+1,x::r=>decide (x≤r.length) && (r.take x.toNat).all (fun y=>!decide (y=0)) && hv m (fall ((r.take x.toNat).map (fun y=>y - 1)++r.drop x.toNat))
end Go.Idl
namespace Go.Idl
theorem len_sub {α:Type} [DecidableEq α]:∀ {l k:List α},l.Nodup→(∀ x ∈ l,x ∈ k)→l.length≤k.length
  | [],_,_,_=>by simp
  | a::l,k,hn,hs=>by
    have hn':=List.nodup_cons.1 hn
    have h1:=len_sub (l:=l) (k:=k.erase a) hn'.2 (fun x hx=>(List.mem_erase_of_ne (fun h=>hn'.1 (by rw [← h];exact hx))).2 (hs x (by simp [hx])))
    have h2:=List.length_erase_of_mem (hs a (by simp))
    have h3:0 < k.length:=List.length_pos_of_mem (hs a (by simp))
    simp only [List.length_cons];omega
theorem len_inj {α β:Type} [DecidableEq β] {l:List α} {k:List β} (f:α→β) (hn:l.Nodup) (hi:∀ x ∈ l,∀ y ∈ l,f x=f y→x=y) (hf:∀ x ∈ l,f x ∈ k):l.length≤k.length:=by
  have h1:(l.map f).Nodup:=by
    rw [List.Nodup,List.pairwise_map]
    exact List.Pairwise.imp_of_mem (fun ha hb h hab=>h (hi _ ha _ hb hab)) hn
  have:=len_sub h1 (fun y hy=>by obtain ⟨x,hx,rfl⟩:=List.mem_map.1 hy;exact hf x hx)
  simpa using this
theorem subs_nodup {N:Nat}:∀ (r:List (Int×Int)) (left:List Int) (ch:List (Int×Int)),(∀ e ∈ r,0≤e.1∧e.1 < e.2∧e.2 < N)→left.length=N→r.Nodup→(subs r left ch).Nodup
  | [],left,ch,_,_,_=>by rw [subs];split <;> simp
  | e::r,left,ch,hr,hl,hn=>by
    have hn':=List.nodup_cons.1 hn
    have hr':∀ x ∈ r,0≤x.1∧x.1 < x.2∧x.2 < N:=fun x hx=>hr x (by simp [hx])
    rw [subs]
    refine List.nodup_append.2 ⟨?_,subs_nodup r left ch hr' hl hn'.2,?_⟩
    · split
      · exact subs_nodup r _ _ hr' (by simp [decAt,hl]) hn'.2
      · exact .nil
    · intro g hg g2 hg2 hgg
      subst hgg
      split at hg
      · obtain ⟨s1,-,h1,-⟩:=(mem_subs r _ _ g hr' (by simp [decAt,hl])).1 hg
        obtain ⟨s2,hs2,h2,-⟩:=(mem_subs r _ _ g hr' hl).1 hg2
        rw [h1,List.append_assoc] at h2
        have h3:=List.append_cancel_left h2
        exact hn'.1 (hs2.mem (by rw [← h3];simp))
      · cases hg
theorem reals_nodup (d:List Int):(reals d).Nodup:=subs_nodup _ _ _ (fun _ he=>mem_prs.1 he) rfl (pw_nodup (prs_pw _))
theorem mk_nat {n:Nat} {e:Int×Int} (he:e ∈ prs n):mk e.1.toNat e.2.toNat=e:=by
  have:=mem_prs.1 he
  exact Prod.ext (by simp only [mk];omega) (by simp only [mk];omega)
end Go.Idl
namespace Go.Idl
open Go
def apart (a b c d:Int):Bool:=decide (a ≠ b) && decide (a ≠ c) && decide (a ≠ d) && decide (b ≠ c) && decide (b ≠ d) && decide (c ≠ d)
def gone (a b c d:Int) (x:Int×Int):Bool:=decide (x=(min a b,max a b)) || decide (x=(min c d,max c d))
end Go.Idl
namespace Go.Idl
open Go
abbrev Q4:=Int×Int×Int×Int
def sws (xs:List Q4):List (List IV):=xs.map fun s=>[I s.1,I s.2.1,I s.2.2.1,I s.2.2.2]
@[simp] theorem sws_len (xs:List Q4):(sws xs).length=xs.length:=by simp [sws]
@[simp] theorem sws_nil:sws []=[]:=rfl
@[simp] theorem sws_take (xs:List Q4) (n:Nat):(sws xs).take n=sws (xs.take n):=by simp [sws,List.map_take]
@[simp] theorem sws_drop (xs:List Q4) (n:Nat):(sws xs).drop n=sws (xs.drop n):=by simp [sws,List.map_drop]
@[simp] theorem sws_one (xs:List Q4) (a b c d:Int):sws xs++[[IV.sc (.int .i64 a),IV.sc (.int .i64 b),IV.sc (.int .i64 c),IV.sc (.int .i64 d)]]=sws (xs++[(a,b,c,d)]):=by simp [sws]
@[simp] theorem sws_get (xs:List Q4) (i:Nat) (h:i < (sws xs).length):(sws xs)[i]=[IV.sc (.int .i64 (xs[i]'(by simpa [sws] using h)).1),IV.sc (.int .i64 (xs[i]'(by simpa [sws] using h)).2.1),IV.sc (.int .i64 (xs[i]'(by simpa [sws] using h)).2.2.1),IV.sc (.int .i64 (xs[i]'(by simpa [sws] using h)).2.2.2)]:=by simp [sws]
@[simp] theorem sws_get? (xs:List Q4) (i:Nat):(sws xs)[i]? = xs[i]?.map fun s=>[IV.sc (.int .i64 s.1),IV.sc (.int .i64 s.2.1),IV.sc (.int .i64 s.2.2.1),IV.sc (.int .i64 s.2.2.2)]:=by simp [sws]
@[simp] theorem sws_all1 (xs:List Q4):((sws xs).all fun x=>x.all IV.plain1)=true:=by
  induction xs with
  | nil=>rfl
  | cons x xs ih=>simp only [sws,List.map_cons,List.all_cons] at *;rw [ih];rfl
@[simp] theorem sws_all2 (xs:List Q4):((sws xs).all fun x=>x.all IV.isData)=true:=by
  induction xs with
  | nil=>rfl
  | cons x xs ih=>simp only [sws,List.map_cons,List.all_cons] at *;rw [ih];rfl
@[simp] theorem sws_noLst (xs:List Q4):noLstLL (sws xs)=true:=by
  induction xs with
  | nil=>rfl
  | cons x xs ih=>simp only [sws,List.map_cons,noLstLL,noLstL,noLstV] at *;rw [ih];rfl
@[simp] theorem frz_sws (xs:List Q4):frzLL (sws xs)=sws xs:=by
  induction xs with
  | nil=>rfl
  | cons x xs ih=>simp only [sws,List.map_cons,frzLL,frzL,frzV] at *;rw [ih]
end Go.Idl
namespace Go.Idl
open Go
def addR (k:Nat) (B r:List Int):List Int:=(List.range B.length).map fun j=>if k≤j then B.getD j 0+r.getD j 0 else B.getD j 0
theorem addR_len (k:Nat) (B r:List Int):(addR k B r).length=B.length:=by simp [addR]
theorem addR_end (B r:List Int):addR B.length B r=B:=by
  refine List.ext_getElem (by simp [addR]) fun j h1 h2=>?_
  have:¬ B.length≤j:=by omega
  simp [addR,this,List.getElem?_eq_getElem h2]
theorem addR_step (k:Nat) (B r:List Int) (hk:k < B.length):addR (k+1) (B.set k (B.getD k 0+r.getD k 0)) r=addR k B r:=by
  refine List.ext_getElem (by simp [addR]) fun j h1 h2=>?_
  have hj:j < B.length:=by simpa [addR] using h2
  simp only [addR,List.getElem_map,List.getElem_range,List.length_set]
  by_cases h:j=k
  · subst h
    rw [if_neg (by omega),if_pos (by omega)]
    simp [List.getD_eq_getElem?_getD,hk]
  · have e:(B.set k (B.getD k 0+r.getD k 0)).getD j 0=B.getD j 0:=by
      simp only [List.getD_eq_getElem?_getD]
      rw [List.getElem?_set_ne (fun q=>h q.symm)]
    rw [e]
    by_cases h3:k≤j
    · rw [if_pos (by omega),if_pos h3]
    · rw [if_neg (by omega),if_neg h3]
theorem addR_bound {B r:List Int} {b:Int} (hB:∀ x ∈ B,0≤x∧x≤b) (hr:∀ x ∈ r,0≤x∧x≤1) (hb:0≤b) (k:Nat):∀ x ∈ addR k B r,0≤x∧x≤b+1:=by
  intro x hx
  simp only [addR,List.mem_map,List.mem_range] at hx
  obtain ⟨j,hj,rfl⟩:=hx
  have h1:0≤B.getD j 0∧B.getD j 0≤b:=by
    rw [List.getD_eq_getElem?_getD,List.getElem?_eq_getElem hj];exact hB _ (List.getElem_mem hj)
  have h2:0≤r.getD j 0∧r.getD j 0≤1:=by
    rw [List.getD_eq_getElem?_getD]
    cases ho:r[j]? with
    | none=>simp
    | some y=>exact hr y (List.mem_of_getElem? ho)
  split <;> omega
def colT (w:Nat) (t:List (List Int)):List Int:=t.foldl (fun B r=>addR 0 B r) (List.replicate w 0)
theorem colT_take (w:Nat) (t:List (List Int)) (i:Nat) (h:i < t.length):colT w (t.take (i+1))=addR 0 (colT w (t.take i)) t[i]:=by
  rw [List.take_succ_eq_append_getElem h,colT,List.foldl_append];rfl
theorem colT_len (w:Nat) (t:List (List Int)):(colT w t).length=w:=by
  have:∀ (t:List (List Int)) (B:List Int),(t.foldl (fun B r=>addR 0 B r) B).length=B.length:=by
    intro t
    induction t with
    | nil=>intro B;rfl
    | cons r t ih=>intro B;rw [List.foldl_cons,ih,addR_len]
  rw [colT,this];simp
theorem colT_bound {w:Nat} {t:List (List Int)} (ht:∀ r ∈ t,∀ x ∈ r,0≤x∧x≤1):∀ x ∈ colT w t,0≤x∧x≤(t.length:Int):=by
  have:∀ (t:List (List Int)) (B:List Int) (b:Nat),(∀ r ∈ t,∀ x ∈ r,0≤x∧x≤1)→(∀ x ∈ B,0≤x∧x≤(b:Int))→∀ x ∈ t.foldl (fun B r=>addR 0 B r) B,0≤x∧x≤((b+t.length:Nat):Int):=by
    intro t
    induction t with
    | nil=>intro B b _ hB x hx;simpa using hB x hx
    | cons r t ih =>
      intro B b hr hB x hx
      have:=ih (addR 0 B r) (b+1) (fun q hq=>hr q (by simp [hq])) (fun y hy=>by have:=addR_bound hB (hr r (by simp)) (by omega) 0 y hy;omega) x hx
      simp only [List.length_cons]
      omega
  intro x hx
  have:=this t (List.replicate w 0) 0 ht (fun y hy=>by have:=List.eq_of_mem_replicate hy;omega) x hx
  omega
theorem mx_in (h w:Nat) (t:List (List Int)) (c:Bool) (i:Nat) (r:List Int) (hh:h≤5) (hw:w≤5) (hi:i < h) (hr:r.length=w) (h01:∀ x ∈ r,0≤x∧x≤1) :
    ∀ (m k:Nat) (A B:List Int) (b:Nat),k+m=w→A.length=h→B.length=w→(∀ x ∈ B,0≤x∧x≤(b:Int))→b+m≤1000→(∀ h:i < A.length,A[i]=(r.take k).sum) →
    wp tb (.loop z16l13) { T:=[(0,TL t c),(4,O A),(5,O B),(6,I i),(7,L r),(21,TL t c),(22,I h),(23,I i),(28,L r),(29,I w),(30,I k)],loc:=[],M:=[] }
      (fun ex st=>ex=.exit 2∧st={ T:=[(0,TL t c),(4,O (A.set i r.sum)),(5,O (addR k B r)),(6,I i),(7,L r),(21,TL t c),(22,I h),(23,I i),(28,L r),(29,I w),(30,I w),(31,Bo false)],loc:=[],M:=[] }):=by
  intro m
  induction m with
  | zero =>
    intro k A B b hk hA hB hb hbm hAi
    have h3:k=w:=hk
    subst h3
    have hi':i < A.length:=by omega
    have hs:A.set i r.sum=A:=by
      have:=hAi hi'
      rw [List.take_of_length_le (by omega)] at this
      rw [← this];simp
    have he:addR k B r=B:=by rw [← hB];exact addR_end B r
    refine wp_loop ?_
    repeat (first|apply wp_as|apply wp_ss|refine wr (by simp;with_reducible rfl) ?_|refine wq (by simp;with_reducible rfl) ?_|refine wt (by simpa) ?_|refine wf (by simpa) ?_|refine xt (by simpa) ?_|refine xf (by simpa) ?_|apply wp_bs|apply wp_b|refine wp_sr ?_|refine wp_sx ?_|refine wp_ret' ?_|refine wp_skip' ?_|refine wp_exit' ?_)
    exact ⟨rfl,by rw [hs,he]⟩
  | succ m ih =>
    intro k A B b hk hA hB hb hbm hAi
    have hkn:k < w:=by omega
    have hkr:k < r.length:=by omega
    have hiA:i < A.length:=by omega
    have hkB:k < B.length:=by omega
    have w2:IntKind.i64.wrap ((k:Int)+1)=((k+1:Nat):Int):=wrapS (by omega)
    have hx:=h01 _ (List.getElem_mem hkr)
    have hy:=hb _ (List.getElem_mem hkB)
    have ht:=(sum_take_succ hkr).symm
    have hbd:=sum01 (r.take (k+1)) (fun x hx=>h01 x (List.mem_of_mem_take hx))
    have hle:(r.take (k+1)).length≤5:=by simp;omega
    have hAi:=hAi hiA
    have hst:=addR_step k B r hkB
    have g1:B.getD k 0=B[k]:=by simp [List.getD_eq_getElem?_getD,List.getElem?_eq_getElem hkB]
    have g2:r.getD k 0=r[k]:=by simp [List.getD_eq_getElem?_getD,List.getElem?_eq_getElem hkr]
    rw [g1,g2] at hst
    generalize hs1:(r.take (k+1)).sum=s1 at *
    generalize (r.take k).sum=s0 at *
    have w1:IntKind.i64.wrap (s0+r[k])=s1:=by rw [← ht];exact wrap64 (by omega) (by omega)
    have w3:IntKind.i64.wrap (B[k]+r[k])=B[k]+r[k]:=wrap64 (by omega) (by omega)
    have hg:=ih (k+1) (A.set i s1) (B.set k (B[k]+r[k])) (b+1) (by omega) (by simp [hA]) (by simp [hB])
      (fun x hx=>by have:=set_bound hb (by omega:0≤B[k]+r[k]∧B[k]+r[k]≤(b:Int)+1) (by omega) x hx;omega) (by omega) (by intro h;simp [hs1])
    rw [hst] at hg
    refine wp_loop ?_
    repeat (first|apply wp_as|apply wp_ss|refine wr (by simp [hkn,hkr,hiA,hkB,hAi,w1,w2,w3];with_reducible rfl) ?_|refine wq (by simp [hkn,hkr,hiA,hkB,hAi,w1,w2,w3];with_reducible rfl) ?_|refine wt (by simpa [hkn,hkr,hiA,hkB,hAi,w1,w2,w3]) ?_|refine wf (by simpa [hkn,hkr,hiA,hkB,hAi,w1,w2,w3]) ?_|refine xt (by simpa [hkn,hkr,hiA,hkB,hAi,w1,w2,w3]) ?_|refine xf (by simpa [hkn,hkr,hiA,hkB,hAi,w1,w2,w3]) ?_|apply wp_bs|apply wp_b|refine wp_sr ?_|refine wp_sx ?_|refine wp_ret' ?_|refine wp_skip' ?_|refine wp_exit' ?_)
    refine wp_imp hg ?_
    rintro ex st ⟨rfl,rfl⟩
    exact ⟨rfl,by simp⟩
theorem mx_out (h w:Nat) (t:List (List Int)) (c:Bool) (hl:t.length=h) (hh:h≤5) (hw:w≤5) (hr:∀ r ∈ t,r.length=w∧∀ x ∈ r,0≤x∧x≤1) :
    ∀ (m i:Nat),i+m=h →
    wp tb (.loop z16l15) { T:=[(0,TL t c),(4,O (mapR i (scr t)++List.replicate (h - i) 0)),(5,O (colT w (t.take i))),(21,TL t c),(22,I h),(23,I i)],loc:=[],M:=[] }
      (fun ex st=>ex=.exit 0∧st={ T:=[(0,TL t c),(4,O (scores t)),(5,O (colT w t)),(21,TL t c),(22,I h),(23,I h),(24,Bo false)],loc:=[],M:=[] }):=by
  intro m
  induction m with
  | zero =>
    intro i hi
    have h3:i=h:=hi
    subst h3
    have ht:t.take i=t:=List.take_of_length_le (by omega)
    rw [ht]
    refine wp_loop ?_
    repeat (first|apply wp_as|apply wp_ss|refine wr (by simp;with_reducible rfl) ?_|refine wq (by simp;with_reducible rfl) ?_|refine wt (by simpa) ?_|refine wf (by simpa) ?_|refine xt (by simpa) ?_|refine xf (by simpa) ?_|apply wp_bs|apply wp_b|refine wp_sr ?_|refine wp_sx ?_|refine wp_ret' ?_|refine wp_skip' ?_|refine wp_exit' ?_)
    exact ⟨rfl,by simp [scores,hl]⟩
  | succ m ih =>
    intro i hi
    have hin:i < h:=by omega
    have hit:i < t.length:=by omega
    have w2:IntKind.i64.wrap ((i:Int)+1)=((i+1:Nat):Int):=wrapS (by omega)
    have hri:=hr _ (List.getElem_mem hit)
    have hrl:=hri.1
    have hA:(mapR i (scr t)++List.replicate (h - i) 0).length=h:=by simp [mapR];omega
    have hs:=mapR_succ_set (scr t) hin
    have hsc:scr t i=t[i].sum:=by simp [scr,List.getD_eq_getElem?_getD,List.getElem?_eq_getElem hit]
    have hcb:=colT_bound (w:=w) (t:=t.take i) (fun r hr'=>(hr r (List.mem_of_mem_take hr')).2)
    have hcl:=colT_len w (t.take i)
    have hct:=colT_take w t i hit
    have hg:=ih (i+1) (by omega)
    rw [hct] at hg
    have hml:=mx_in h w t c i t[i] hh hw hin hrl hri.2 w 0 (mapR i (scr t)++List.replicate (h - i) 0) (colT w (t.take i)) 5 (by omega) hA hcl (fun x hx=>by have:=hcb x hx;simp at this;omega) (by omega) (by
      intro h
      rw [List.getElem_append_right (by simp [mapR])];simp)
    rw [← hsc,hs] at hml
    generalize colT w (t.take i)=B at *
    refine wp_loop ?_
    repeat (first|apply wp_as|apply wp_ss|refine wr (by simp [hin,hit,hrl];with_reducible rfl) ?_|refine wq (by simp [hin,hit,hrl];with_reducible rfl) ?_|refine wt (by simpa [hin,hit,hrl]) ?_|refine wf (by simpa [hin,hit,hrl]) ?_|refine xt (by simpa [hin,hit,hrl]) ?_|refine xf (by simpa [hin,hit,hrl]) ?_|apply wp_bs|apply wp_b|refine wp_sr ?_|refine wp_sx ?_|refine wp_ret' ?_|refine wp_skip' ?_|refine wp_exit' ?_)
    refine wp_imp hml ?_
    rintro ex st ⟨rfl,rfl⟩
    simp only [if_true]
    repeat (first|apply wp_as|apply wp_ss|refine wr (by simp [w2];with_reducible rfl) ?_|refine wq (by simp [w2];with_reducible rfl) ?_|refine wt (by simpa [w2]) ?_|refine wf (by simpa [w2]) ?_|refine xt (by simpa [w2]) ?_|refine xf (by simpa [w2]) ?_|apply wp_bs|apply wp_b|refine wp_sr ?_|refine wp_sx ?_|refine wp_ret' ?_|refine wp_skip' ?_|refine wp_exit' ?_)
    exact hg
theorem ev_MarginsX (h w:Nat) (t:List (List Int)) (c:Bool) (hh:1≤h∧h≤5) (hw:1≤w∧w≤5) (hl:t.length=h) (hr:∀ r ∈ t,r.length=w∧∀ x ∈ r,0≤x∧x≤1) (hm:mOk t=true) :
    Ev tb zl16 [] [TL t c] [] ⟨.tup [O (scores t),O (colT w t)],[],[],[]⟩:=by
  have h0:0 < t.length:=by omega
  have hr0:=(hr _ (List.getElem_mem h0)).1
  have h0':0 < h:=by omega
  have e1:=ev_lim (ev_ValidMatrix t c (by omega) (fun r hr'=>by have:=(hr r hr').1;omega))
  rw [hm] at e1
  have hlo:=mx_out h w t c hl hh.2 hw.2 hr h 0 (by omega)
  rw [List.take_zero,show colT w []=List.replicate w 0 from rfl,show mapR 0 (scr t)=[] from rfl,List.nil_append,Nat.sub_zero,show ((0:Nat):Int)=0 from rfl] at hlo
  refine call_of_wp zt16 rfl ?_
  repeat (first|apply wp_as|apply wp_ss|refine wr (by simp [e1];with_reducible rfl) ?_|refine wq (by simp [e1];with_reducible rfl) ?_|refine wt (by simpa [e1]) ?_|refine wf (by simpa [e1]) ?_|refine xt (by simpa [e1]) ?_|refine xf (by simpa [e1]) ?_|apply wp_bs|apply wp_b|refine wp_sr ?_|refine wp_sx ?_|refine wp_ret' ?_|refine wp_skip' ?_|refine wp_exit' ?_)
  refine wp_rega (by simp [h0,h0',hl,hr0,show h≤274877906944 by omega,show w≤274877906944 by omega];with_reducible rfl) (by simp;with_reducible rfl) ?_ ?_
  · intro p hp
    simp only [List.mem_cons,List.not_mem_nil,or_false] at hp
    rcases hp with rfl | rfl | rfl | rfl | rfl
    · exact ⟨_,by simp [h0,h0',hl,hr0,show h≤274877906944 by omega,show w≤274877906944 by omega];with_reducible rfl,by simp⟩
    · exact ⟨_,by simp [h0,h0',hl,hr0,show h≤274877906944 by omega,show w≤274877906944 by omega];with_reducible rfl,by simp⟩
    · exact ⟨_,by simp [h0,h0',hl,hr0,show h≤274877906944 by omega,show w≤274877906944 by omega];with_reducible rfl,by simp⟩
    · exact ⟨_,by simp [h0,h0',hl,hr0,show h≤274877906944 by omega,show w≤274877906944 by omega];with_reducible rfl,by simp⟩
    · exact ⟨_,by simp [h0,h0',hl,hr0,show h≤274877906944 by omega,show w≤274877906944 by omega];with_reducible rfl,by simp⟩
  repeat (first|apply wp_as|apply wp_ss|refine wr (by simp [hl];with_reducible rfl) ?_|refine wq (by simp [hl];with_reducible rfl) ?_|refine wt (by simpa [hl]) ?_|refine wf (by simpa [hl]) ?_|refine xt (by simpa [hl]) ?_|refine xf (by simpa [hl]) ?_|apply wp_bs|apply wp_b|refine wp_sr ?_|refine wp_sx ?_|refine wp_ret' ?_|refine wp_skip' ?_|refine wp_exit' ?_)
  refine wp_imp hlo ?_
  rintro ex st ⟨rfl,rfl⟩
  simp only [if_true]
  repeat (first|apply wp_as|apply wp_ss|refine wr (by simp;with_reducible rfl) ?_|refine wq (by simp;with_reducible rfl) ?_|refine wt (by simpa) ?_|refine wf (by simpa) ?_|refine xt (by simpa) ?_|refine xf (by simpa) ?_|apply wp_bs|apply wp_b|refine wp_sr ?_|refine wp_sx ?_|refine wp_ret' ?_|refine wp_skip' ?_|refine wp_exit' ?_)
  simp [zi16]
end Go.Idl
namespace Go.Idl
open Go
def mgP (h:Nat) (t:List (List Int)) (e:Int×Int):Bool:=decide (e.2 < h) || (decide (e.1 < h) && decide (g2 t e.1.toNat (e.2.toNat - h)=1))
def mgE (h w:Nat) (t:List (List Int)):List (Int×Int):=(prs (h+w)).filter (mgP h t)
section
variable (h w:Nat) (t:List (List Int)) (c:Bool) (hh:1≤h∧h≤5) (hw:1≤w∧w≤5) (hl:t.length=h) (hr:∀ r ∈ t,r.length=w) (hm:mOk t=true)
include hh hw hl hr hm
end
end Go.Idl
namespace Go.Idl
open Go
structure Mat (h w:Nat) (t:List (List Int)):Prop where
  len:t.length=h
  row:∀ r ∈ t,r.length=w∧∀ x ∈ r,0≤x∧x≤1
section
variable {h w:Nat} {t:List (List Int)}
theorem Mat.ent (m:Mat h w t) {i:Nat} (hi:i < h) (k:Nat):0≤g2 t i k∧g2 t i k≤1:=by
  have hit:i < t.length:=by rw [m.len];exact hi
  have h1:=(m.row _ (List.getElem_mem hit)).2
  rw [g2,List.getD_eq_getElem?_getD (l:=t),List.getElem?_eq_getElem hit,Option.getD_some,List.getD_eq_getElem?_getD]
  cases ho:t[i][k]? with
  | none=>simp
  | some y=>exact h1 y (List.mem_of_getElem? ho)
theorem Mat.one (m:Mat h w t) {i:Nat} (hi:i < h) (k:Nat):(if g2 t i k=1 then (1:Int) else 0)=g2 t i k:=by
  have:=m.ent hi k
  split <;> omega
theorem Mat.scr (m:Mat h w t) {i:Nat} (hi:i < h):scr t i=S (List.range w) (fun k=>g2 t i k):=by
  have hit:i < t.length:=by rw [m.len];exact hi
  have h1:=(m.row _ (List.getElem_mem hit)).1
  have e:t.getD i []=t[i]:=by simp [List.getD_eq_getElem?_getD,List.getElem?_eq_getElem hit]
  rw [Idl.scr,e,sum_S,h1]
  exact S_congr fun k _=>by rw [g2,e]
theorem colT_get (w:Nat):∀ (t:List (List Int)) (k:Nat),k < w→(∀ r ∈ t,r.length=w)→(colT w t).getD k 0=S (List.range t.length) (fun i=>g2 t i k):=by
  have key:∀ (t:List (List Int)) (B:List Int) (k:Nat),k < B.length→(t.foldl (fun B r=>addR 0 B r) B).getD k 0=B.getD k 0+S t (fun r=>r.getD k 0):=by
    intro t
    induction t with
    | nil=>intro B k _;simp
    | cons r t ih =>
      intro B k hk
      rw [List.foldl_cons,ih _ _ (by rw [addR_len];exact hk),S_cons]
      have:(addR 0 B r).getD k 0=B.getD k 0+r.getD k 0:=by
        rw [List.getD_eq_getElem?_getD,addR,List.getElem?_map,List.getElem?_range hk]
        simp
      rw [this];omega
  intro t k hk hr
  rw [colT,key t _ k (by simpa using hk)]
  have e1:(List.replicate w (0:Int)).getD k 0=0:=by simp [List.getD_eq_getElem?_getD,hk]
  have e2:t=(List.range t.length).map fun i=>t.getD i []:=by
    refine List.ext_getElem (by simp) fun i h1 h2=>?_
    simp [List.getElem?_eq_getElem h1]
  rw [e1,Int.zero_add]
  conv=>lhs;rw [e2]
  rw [S_map]
  rfl
theorem range_two_parts (h w:Nat) (f:Nat→Int):S (List.range (h+w)) f=S (List.range h) f+S (List.range w) (fun k=>f (h+k)):=by
  rw [List.range_add,S_app,S_map]
theorem S_but (h v:Nat) (hv:v < h):S (List.range h) (fun u=>if u=v then (0:Int) else 1)=(h:Int) - 1:=by
  have e:=S_one (List.nodup_range (n:=h)) v
  rw [if_pos (List.mem_range.2 hv)] at e
  have e2:=S_const (List.range h) 1
  rw [List.length_range] at e2
  have e3:=S_sub (List.range h) (fun _=>1) (fun a=>if v=a then 1 else 0)
  rw [e2,e] at e3
  rw [← S_congr (f:=fun u=>(1:Int) - if v=u then 1 else 0) fun u _=>?_,e3]
  · omega
  · by_cases q:u=v
    · subst q;simp
    · rw [if_neg q,if_neg (fun z=>q z.symm)];rfl
theorem mg_degs (m:Mat h w t) (h7:h+w≤7):degs (h+w) (mgE h w t)=joined (scores t) (colT w t):=by
  have hsl:(scores t).length=h:=by simp [scores,mapR,m.len]
  have hcl:=colT_len w t
  rw [mgE,degs_filter]
  refine List.ext_getElem (by simp [joined,hsl,hcl]) fun v h1 h2=>?_
  have hv:v < h+w:=by simpa using h1
  rw [List.getElem_map,List.getElem_range,deg_filter h7 _ hv,range_two_parts]
  by_cases hvh:v < h
  · have e1:S (List.range h) (fun u=>if u=v then 0 else if mgP h t (mk u v)=true then 1 else 0)=(h:Int) - 1:=by
      rw [← S_but h v hvh]
      refine S_congr fun u hu=>?_
      have hu:=List.mem_range.1 hu
      by_cases q:u=v
      · rw [if_pos q,if_pos q]
      · rw [if_neg q,if_neg q,if_pos]
        rw [mgP,Bool.or_eq_true,decide_eq_true_eq]
        left;simp only [mk];omega
    have e2:S (List.range w) (fun k=>if h+k=v then 0 else if mgP h t (mk (h+k) v)=true then 1 else 0)=scr t v:=by
      rw [m.scr hvh]
      refine S_congr fun k hk=>?_
      rw [if_neg (by omega),← m.one hvh k]
      have e:mgP h t (mk (h+k) v)=decide (g2 t v k=1):=by
        have a1:(mk (h+k) v).1=(v:Int):=by simp only [mk];omega
        have a2:(mk (h+k) v).2=((h+k:Nat):Int):=by simp only [mk];omega
        rw [mgP,a1,a2,decide_eq_false (by omega),decide_eq_true (by omega),Bool.false_or,Bool.true_and,Int.toNat_natCast,Int.toNat_natCast,Nat.add_sub_cancel_left]
      rw [e]
      by_cases q:g2 t v k=1 <;> simp [q]
    rw [e1,e2]
    have hj:(joined (scores t) (colT w t))[v]=((scores t).map fun x:Int=>x+((scores t).length:Int) - 1)[v]'(by simpa [hsl] using hvh):=List.getElem_append_left _
    have h3:(scores t)[v]'(by omega)=scr t v:=by simp [scores,mapR]
    rw [hj,List.getElem_map,h3,hsl];omega
  · obtain ⟨k,rfl⟩:∃ k,v=h+k:=⟨v - h,by omega⟩
    have hk:k < w:=by omega
    have e1:S (List.range h) (fun u=>if u=h+k then 0 else if mgP h t (mk u (h+k))=true then 1 else 0)=(colT w t).getD k 0:=by
      rw [colT_get w t k hk (fun r hr=>(m.row r hr).1),m.len]
      refine S_congr fun u hu=>?_
      have hu:=List.mem_range.1 hu
      rw [if_neg (by omega),← m.one hu k]
      have e:mgP h t (mk u (h+k))=decide (g2 t u k=1):=by
        have a1:(mk u (h+k)).1=(u:Int):=by simp only [mk];omega
        have a2:(mk u (h+k)).2=((h+k:Nat):Int):=by simp only [mk];omega
        rw [mgP,a1,a2,decide_eq_false (by omega),decide_eq_true (by omega),Bool.false_or,Bool.true_and,Int.toNat_natCast,Int.toNat_natCast,Nat.add_sub_cancel_left]
      rw [e]
      by_cases q:g2 t u k=1 <;> simp [q]
    have e2:S (List.range w) (fun j=>if h+j=h+k then 0 else if mgP h t (mk (h+j) (h+k))=true then 1 else 0)=0:=by
      refine Eq.trans (S_congr (g:=fun _=>(0:Int)) fun j hj=>?_) (S_zero _)
      by_cases q:h+j=h+k
      · rw [if_pos q]
      · rw [if_neg q,if_neg]
        rw [mgP,Bool.or_eq_true,Bool.and_eq_true,decide_eq_true_eq,decide_eq_true_eq]
        simp only [mk];omega
    rw [e1,e2]
    have hj:(joined (scores t) (colT w t))[h+k]=(colT w t)[k]'(by omega):=by
      simp only [joined]
      rw [List.getElem_append_right (by simp [hsl])]
      simp [hsl]
    rw [hj,List.getD_eq_getElem?_getD,List.getElem?_eq_getElem (by omega)]
    simp
theorem mg_gale (m:Mat h w t) (i:Nat):0≤gs (scores t) (colT w t) i:=by
  have hsl:(scores t).length=h:=by simp [scores,mapR,m.len]
  have hcl:=colT_len w t
  have hget:∀ v,v < h→(scores t).getD v 0=S (List.range w) (fun k=>g2 t v k):=fun v hv=>by
    rw [← m.scr hv,getD_get (by omega)];simp [scores,mapR]
  obtain ⟨π,hπ,hf⟩:=perm_map_inv (f:=fun v=>(scores t).getD v 0) (fall_perm (scores t)) (getD_map (scores t))
  rw [hsl] at hπ
  have e1:((fall (scores t)).take (i+1)).sum=S (π.take (i+1)) (fun v=>(scores t).getD v 0):=by rw [hf,← List.map_take];rfl
  have hsub:(π.take (i+1)).Sublist π:=List.take_sublist _ _
  have hin:∀ v ∈ π,v < h:=fun v hv=>List.mem_range.1 (hπ.mem_iff.1 hv)
  have e2:S (π.take (i+1)) (fun v=>(scores t).getD v 0)=S (List.range w) (fun k=>S (π.take (i+1)) (fun v=>g2 t v k)):=by
    rw [← S_swap]
    exact S_congr fun v hv=>hget v (hin v (hsub.subset hv))
  have e3:S (List.range w) (fun k=>S (π.take (i+1)) (fun v=>g2 t v k))≤S (List.range w) (fun k=>min ((colT w t).getD k 0) ((i:Int)+1)):=by
    refine S_le fun k hk=>?_
    have a1:S (π.take (i+1)) (fun v=>g2 t v k)≤(colT w t).getD k 0:=by
      rw [colT_get w t k (List.mem_range.1 hk) (fun r hr=>(m.row r hr).1),m.len,← S_perm hπ]
      exact S_sublist hsub fun v hv=>(m.ent (hin v hv) k).1
    have a2:S (π.take (i+1)) (fun v=>g2 t v k)≤(i:Int)+1:=by
      have s1:S (π.take (i+1)) (fun v=>g2 t v k)≤S (π.take (i+1)) (fun _=>1):=S_le fun v hv=>(m.ent (hin v (hsub.subset hv)) k).2
      rw [S_const] at s1
      have:(π.take (i+1)).length≤i+1:=by simp;omega
      omega
    omega
  have e4:=map_sum_S (colT w t) fun x=>min x ((i:Int)+1)
  rw [hcl] at e4
  rw [gs,e1,e2,e4];omega
theorem mg_sum (m:Mat h w t):(scores t).sum=(colT w t).sum:=by
  have hsl:(scores t).length=h:=by simp [scores,mapR,m.len]
  rw [sum_S (scores t),sum_S (colT w t),hsl,colT_len,S_congr (g:=fun v=>S (List.range w) (fun k=>g2 t v k)) fun v hv=>?_,S_swap]
  · refine S_congr fun k hk=>?_
    rw [colT_get w t k (List.mem_range.1 hk) (fun r hr=>(m.row r hr).1),m.len]
  · rw [← m.scr (List.mem_range.1 hv),getD_get (by have:=List.mem_range.1 hv;omega)];simp [scores,mapR]
theorem mem_mgE {e:Int×Int}:e ∈ mgE h w t ↔ (0≤e.1∧e.1 < e.2∧e.2 < ((h+w:Nat):Int))∧mgP h t e=true:=by
  rw [mgE,List.mem_filter,mem_prs]
theorem mgP_mix {a b:Nat} (ha:a < h):mgP h t ((a:Int),(h:Int)+b)=decide (g2 t a b=1):=by
  rw [mgP,decide_eq_false (by simp;omega),decide_eq_true (by simp;omega),Bool.false_or,Bool.true_and]
  have:((h:Int)+(b:Int)).toNat - h=b:=by omega
  simp only [Int.toNat_natCast,this]
end
end Go.Idl
namespace Go.Idl
def bAll:Nat→(Nat→Bool)→Bool
  | 0,_=>true
  | k+1,f=>f k && bAll k f
def bSum:List Nat→Nat
  | []=>0
  | x::r=>Nat.add x (bSum r)
def bMin (k:Nat):List Nat→Nat
  | []=>0
  | x::r=>Nat.add (cond (Nat.ble x k) x k) (bMin k r)
def bGr:List Nat→Nat→Nat→List Nat→Bool
  | [],_,_,_=>true
  | x::r,k,s,c=>Nat.ble (Nat.add s x) (bMin (Nat.succ k) c) && bGr r (Nat.succ k) (Nat.add s x) c
def bPos:Nat→List Nat→Bool
  | 0,_=>true
  | _+1,[]=>false
  | x+1,y::r=>Nat.blt 0 y && bPos x r
def bDec:Nat→List Nat→List Nat
  | 0,c=>c
  | _+1,[]=>[]
  | x+1,y::r=>Nat.pred y::bDec x r
def bNth:Nat→List Nat→Nat
  | _,[]=>0
  | 0,x::_=>x
  | p+1,_::r=>bNth p r
def bDel:Nat→List Nat→List Nat
  | _,[]=>[]
  | 0,_::r=>r
  | p+1,x::r=>x::bDel p r
def bEq:Bool→Bool→Bool
  | true,b=>b
  | false,b=>!b
def bStep (r c:List Nat) (p:Nat):Bool:=bEq (bGr r 0 0 c) (bPos (bNth p r) c && bGr (bDel p r) 0 0 (bDec (bNth p r) c))
def bChk (r c:List Nat):Bool:=bAll r.length (bStep r c) && bEq (bGr r 0 0 c) (bGr c 0 0 r)
def bAllF:Nat→Nat→(List Nat→Bool)→Bool
  | 0,_,f=>f []
  | m+1,t,f=>bAll (Nat.succ t) fun x=>bAllF m x fun l=>f (x::l)
def bAllG:Nat→Nat→Nat→(List Nat→Bool)→Bool
  | 0,_,s,f=>cond (Nat.beq s 0) (f []) true
  | m+1,t,s,f=>bAll (Nat.succ t) fun x=>cond (Nat.ble x s) (bAllG m x (Nat.sub s x) fun l=>f (x::l)) true
def bRow (h:Nat) (r:List Nat):Bool:=bAllG h 5 (bSum r) fun c=>bChk r c
theorem bAll_in {f:Nat→Bool}:∀ {k:Nat},(∀ i,i < k→f i=true)→bAll k f=true
  | 0,_=>rfl
  | k+1,h=>by rw [bAll,h k (by omega),bAll_in fun i hi=>h i (by omega)];rfl
set_option maxRecDepth 100000 in
theorem bc_1_1:bAllF 1 1 (bRow 1)=true:=by kernel_rfl
set_option maxRecDepth 100000 in
theorem bc_1_2:bAllF 1 2 (bRow 2)=true:=by kernel_rfl
set_option maxRecDepth 100000 in
theorem bc_1_3:bAllF 1 3 (bRow 3)=true:=by kernel_rfl
set_option maxRecDepth 100000 in
theorem bc_1_4:bAllF 1 4 (bRow 4)=true:=by kernel_rfl
set_option maxRecDepth 100000 in
theorem bc_1_5:bAllF 1 5 (bRow 5)=true:=by kernel_rfl
set_option maxRecDepth 100000 in
theorem bc_2_1:bAllF 2 1 (bRow 1)=true:=by kernel_rfl
set_option maxRecDepth 100000 in
theorem bc_2_2:bAllF 2 2 (bRow 2)=true:=by kernel_rfl
set_option maxRecDepth 100000 in
theorem bc_2_3:bAllF 2 3 (bRow 3)=true:=by kernel_rfl
set_option maxRecDepth 100000 in
theorem bc_2_4:bAllF 2 4 (bRow 4)=true:=by kernel_rfl
set_option maxRecDepth 100000 in
theorem bc_2_5:bAllF 2 5 (bRow 5)=true:=by kernel_rfl
set_option maxRecDepth 100000 in
theorem bc_3_1:bAllF 3 1 (bRow 1)=true:=by kernel_rfl
set_option maxRecDepth 100000 in
theorem bc_3_2:bAllF 3 2 (bRow 2)=true:=by kernel_rfl
set_option maxRecDepth 100000 in
theorem bc_3_3:bAllF 3 3 (bRow 3)=true:=by kernel_rfl
set_option maxRecDepth 100000 in
theorem bc_3_4:bAllF 3 4 (bRow 4)=true:=by kernel_rfl
set_option maxRecDepth 100000 in
theorem bc_3_5:bAllF 3 5 (bRow 5)=true:=by kernel_rfl
set_option maxRecDepth 100000 in
theorem bc_4_1:bAllF 4 1 (bRow 1)=true:=by kernel_rfl
set_option maxRecDepth 100000 in
theorem bc_4_2:bAllF 4 2 (bRow 2)=true:=by kernel_rfl
set_option maxRecDepth 100000 in
theorem bc_4_3:bAllF 4 3 (bRow 3)=true:=by kernel_rfl
set_option maxRecDepth 100000 in
theorem bc_4_4:bAllF 4 4 (bRow 4)=true:=by kernel_rfl
set_option maxRecDepth 100000 in
theorem bc_4_5:bAllF 4 5 (bRow 5)=true:=by kernel_rfl
set_option maxRecDepth 100000 in
theorem bc_5_1:bAllF 5 1 (bRow 1)=true:=by kernel_rfl
set_option maxRecDepth 100000 in
theorem bc_5_2:bAllF 5 2 (bRow 2)=true:=by kernel_rfl
set_option maxRecDepth 100000 in
theorem bc_5_3:bAllF 5 3 (bRow 3)=true:=by kernel_rfl
set_option maxRecDepth 100000 in
theorem bc_5_4_0:bAllF 4 0 (fun l=>bRow 4 (0::l))=true:=by kernel_rfl
set_option maxRecDepth 100000 in
theorem bc_5_4_1:bAllF 4 1 (fun l=>bRow 4 (1::l))=true:=by kernel_rfl
set_option maxRecDepth 100000 in
theorem bc_5_4_2:bAllF 4 2 (fun l=>bRow 4 (2::l))=true:=by kernel_rfl
set_option maxRecDepth 100000 in
theorem bc_5_4_3:bAllF 4 3 (fun l=>bRow 4 (3::l))=true:=by kernel_rfl
set_option maxRecDepth 100000 in
theorem bc_5_4_4:bAllF 4 4 (fun l=>bRow 4 (4::l))=true:=by kernel_rfl
theorem bc_5_4:bAllF 5 4 (bRow 4)=true:=bAll_in fun x hx=>match x,hx with
  | 0,_=>bc_5_4_0
  | 1,_=>bc_5_4_1
  | 2,_=>bc_5_4_2
  | 3,_=>bc_5_4_3
  | 4,_=>bc_5_4_4
  | n+5,h=>absurd h (by omega)
set_option maxRecDepth 100000 in
theorem bc_5_5_0:bAllF 4 0 (fun l=>bRow 5 (0::l))=true:=by kernel_rfl
set_option maxRecDepth 100000 in
theorem bc_5_5_1:bAllF 4 1 (fun l=>bRow 5 (1::l))=true:=by kernel_rfl
set_option maxRecDepth 100000 in
theorem bc_5_5_2:bAllF 4 2 (fun l=>bRow 5 (2::l))=true:=by kernel_rfl
set_option maxRecDepth 100000 in
theorem bc_5_5_3:bAllF 4 3 (fun l=>bRow 5 (3::l))=true:=by kernel_rfl
set_option maxRecDepth 100000 in
theorem bc_5_5_4:bAllF 4 4 (fun l=>bRow 5 (4::l))=true:=by kernel_rfl
set_option maxRecDepth 100000 in
theorem bc_5_5_5:bAllF 4 5 (fun l=>bRow 5 (5::l))=true:=by kernel_rfl
theorem bc_5_5:bAllF 5 5 (bRow 5)=true:=bAll_in fun x hx=>match x,hx with
  | 0,_=>bc_5_5_0
  | 1,_=>bc_5_5_1
  | 2,_=>bc_5_5_2
  | 3,_=>bc_5_5_3
  | 4,_=>bc_5_5_4
  | 5,_=>bc_5_5_5
  | n+6,h=>absurd h (by omega)
theorem bc_all:∀ w h:Nat,1≤w→w≤5→1≤h→h≤5→bAllF w h (bRow h)=true:=fun w h h1 h2 h3 h4=>match w,h,h1,h2,h3,h4 with
  | 1,1,_,_,_,_=>bc_1_1
  | 1,2,_,_,_,_=>bc_1_2
  | 1,3,_,_,_,_=>bc_1_3
  | 1,4,_,_,_,_=>bc_1_4
  | 1,5,_,_,_,_=>bc_1_5
  | 2,1,_,_,_,_=>bc_2_1
  | 2,2,_,_,_,_=>bc_2_2
  | 2,3,_,_,_,_=>bc_2_3
  | 2,4,_,_,_,_=>bc_2_4
  | 2,5,_,_,_,_=>bc_2_5
  | 3,1,_,_,_,_=>bc_3_1
  | 3,2,_,_,_,_=>bc_3_2
  | 3,3,_,_,_,_=>bc_3_3
  | 3,4,_,_,_,_=>bc_3_4
  | 3,5,_,_,_,_=>bc_3_5
  | 4,1,_,_,_,_=>bc_4_1
  | 4,2,_,_,_,_=>bc_4_2
  | 4,3,_,_,_,_=>bc_4_3
  | 4,4,_,_,_,_=>bc_4_4
  | 4,5,_,_,_,_=>bc_4_5
  | 5,1,_,_,_,_=>bc_5_1
  | 5,2,_,_,_,_=>bc_5_2
  | 5,3,_,_,_,_=>bc_5_3
  | 5,4,_,_,_,_=>bc_5_4
  | 5,5,_,_,_,_=>bc_5_5
  | 0,_,h,_,_,_=>absurd h (by omega)
  | _,0,_,_,h,_=>absurd h (by omega)
  | n+6,_,_,h,_,_=>absurd h (by omega)
  | _,n+6,_,_,_,h=>absurd h (by omega)
theorem bAll_ok {f:Nat→Bool}:∀ {k:Nat},bAll k f=true→∀ i,i < k→f i=true
  | 0,_,i,hi=>absurd hi (by omega)
  | k+1,h,i,hi=>by
    rw [bAll,Bool.and_eq_true] at h
    by_cases he:i=k
    · subst he;exact h.1
    · exact bAll_ok h.2 i (by omega)
def FalN:Nat→List Nat→Prop
  | _,[]=>True
  | t,x::r=>x≤t∧FalN x r
theorem bAllF_ok:∀ (m t:Nat) (f:List Nat→Bool) (l:List Nat),bAllF m t f=true→l.length=m→FalN t l→f l=true
  | 0,t,f,l,h,hl,_=>by
    have:l=[]:=List.length_eq_zero_iff.1 hl
    subst this;exact h
  | m+1,t,f,[],h,hl,_=>by simp at hl
  | m+1,t,f,x::r,h,hl,hf=>bAllF_ok m x (fun l=>f (x::l)) r (bAll_ok h x (by have:=hf.1;omega)) (by simpa using hl) hf.2
theorem bAllG_ok:∀ (m t s:Nat) (f:List Nat→Bool) (l:List Nat),bAllG m t s f=true→l.length=m→FalN t l→bSum l=s→f l=true
  | 0,t,s,f,l,h,hl,_,hs=>by
    have:l=[]:=List.length_eq_zero_iff.1 hl
    subst this
    have:s=0:=hs.symm
    subst this;exact h
  | m+1,t,s,f,[],h,hl,_,_=>by simp at hl
  | m+1,t,s,f,x::r,h,hl,hf,hs=>by
    have hs':x+bSum r=s:=hs
    have h1:=bAll_ok h x (by have:=hf.1;omega)
    have hb:Nat.ble x s=true:=by rw [Nat.ble_eq];omega
    simp only [hb,cond_true] at h1
    exact bAllG_ok m x _ (fun l=>f (x::l)) r h1 (by simpa using hl) hf.2 (by show bSum r=s - x;omega)
theorem bEq_ok:∀ {a b:Bool},bEq a b=true→a=b
  | true,true,_=>rfl
  | false,false,_=>rfl
  | true,false,h=>by cases h
  | false,true,h=>by cases h
theorem bChk_ok {w h:Nat} {r c:List Nat} (h1:1≤w) (h2:w≤5) (h3:1≤h) (h4:h≤5) (hr:r.length=w) (hc:c.length=h) (fr:FalN h r) (fc:FalN 5 c) (hs:bSum r=bSum c) :
    (∀ p,p < w→bGr r 0 0 c=(bPos (bNth p r) c && bGr (bDel p r) 0 0 (bDec (bNth p r) c)))∧bGr r 0 0 c=bGr c 0 0 r:=by
  have e1:=bAllF_ok w h (bRow h) r (bc_all w h h1 h2 h3 h4) hr fr
  have e2:=bAllG_ok h 5 _ (fun c=>bChk r c) c e1 hc fc hs.symm
  simp only [bChk,Bool.and_eq_true] at e2
  exact ⟨fun p hp=>bEq_ok (bAll_ok e2.1 p (by omega)),bEq_ok e2.2⟩
end Go.Idl
namespace Go.Idl
open Go
def takeT (i:Nat):List Int→List Int→List (List Int)→Option (List Int×List (List Int))
  | [],c,t=>some (c,t)
  | j::js,c,t=>if c.getD j.toNat 0=0 then none else takeT i js (decAt c j.toNat) (set2 t i j.toNat 1)
theorem idxB_allQ (h:Nat):idxB h (-1)=(List.range h).map fun v:Nat=>(v:Int):=by
  rw [idxB,List.filter_eq_self.2 (by intro a ha;obtain ⟨v,_,rfl⟩:=List.mem_map.1 ha;rw [decide_eq_true_eq];omega)]
theorem idxB_in (h:Nat):∀ v ∈ idxB h (-1),0≤v∧v < h:=by
  intro v hv
  rw [idxB_allQ] at hv
  obtain ⟨k,hk,rfl⟩:=List.mem_map.1 hv
  have:=List.mem_range.1 hk
  omega
theorem topD_in (c:List Int) (h x:Nat):∀ v ∈ topD c (idxB h (-1)) x,0≤v∧v < h:=by
  intro v hv
  have:=(srtC_perm (gtD c) (idxB h (-1)) []).mem_iff.1 (List.mem_of_mem_take hv)
  exact idxB_in h v (by simpa using this)
end Go.Idl
namespace Go.Idl
open Go
def gr (r c:List Int):Bool:=decide (r.sum=c.sum) && noneNeg (gale r c)
def tn (l:List Int):List Nat:=l.map Int.toNat
def tz (l:List Nat):List Int:=l.map fun n:Nat=>(n:Int)
theorem tz_tn {l:List Int} (h:∀ x ∈ l,0≤x):tz (tn l)=l:=by
  rw [tz,tn,List.map_map]
  conv=>rhs;rw [← List.map_id l]
  exact List.map_congr_left fun x hx=>by have:=h x hx;simp;omega
theorem bSum_tz (l:List Nat):(tz l).sum=(bSum l:Int):=by
  induction l with
  | nil=>rfl
  | cons x r ih =>
    have:bSum (x::r)=x+bSum r:=rfl
    rw [this,tz,List.map_cons,List.sum_cons,← tz,ih];omega
theorem bMin_tz (k:Nat) (l:List Nat):((tz l).map fun x:Int=>min x (k:Int)).sum=(bMin k l:Int):=by
  induction l with
  | nil=>rfl
  | cons x r ih =>
    have h1:bMin k (x::r)=(cond (Nat.ble x k) x k)+bMin k r:=rfl
    rw [h1,tz,List.map_cons,List.map_cons,List.sum_cons,← tz,ih]
    by_cases h:x≤k
    · have:Nat.ble x k=true:=by rw [Nat.ble_eq];exact h
      rw [this,cond_true];omega
    · have:Nat.ble x k=false:=by rw [Bool.eq_false_iff];intro hh;rw [Nat.ble_eq] at hh;exact h hh
      rw [this,cond_false];omega
theorem bGr_iff:∀ (r:List Nat) (k s:Nat) (c:List Nat),bGr r k s c=true ↔ ∀ i,i < r.length→s+bSum (r.take (i+1))≤bMin (k+i+1) c
  | [],_,_,_=>by simp [bGr]
  | x::r,k,s,c=>by
    rw [bGr,Bool.and_eq_true,bGr_iff r,Nat.ble_eq]
    constructor
    · rintro ⟨h1,h2⟩ i hi
      cases i with
      | zero=>simpa [bSum] using h1
      | succ i =>
        have h3:=h2 i (by simpa using hi)
        have h4:bSum ((x::r).take (i+1+1))=x+bSum (r.take (i+1)):=rfl
        rw [h4]
        have h5:k.succ+i+1=k+(i+1)+1:=by omega
        rw [h5] at h3
        have:Nat.add s x=s+x:=rfl
        omega
    · intro h
      refine ⟨by simpa [bSum] using h 0 (by simp),fun i hi=>?_⟩
      have h3:=h (i+1) (by simpa using hi)
      have h4:bSum ((x::r).take (i+1+1))=x+bSum (r.take (i+1)):=rfl
      rw [h4] at h3
      have h5:k.succ+i+1=k+(i+1)+1:=by omega
      rw [h5]
      have:Nat.add s x=s+x:=rfl
      omega
theorem tz_take (l:List Nat) (k:Nat):(tz l).take k=tz (l.take k):=by simp [tz,List.map_take]
theorem gr_N {r c:List Int} {rn cn:List Nat} (h1:fall r=tz rn) (h2:c.Perm (tz cn)):gr r c=(decide (bSum rn=bSum cn) && bGr rn 0 0 cn):=by
  have hs1:r.sum=(bSum rn:Int):=by rw [← fall_sum,h1,bSum_tz]
  have hs2:c.sum=(bSum cn:Int):=by rw [perm_sum h2,bSum_tz]
  have hl:r.length=rn.length:=by rw [← fall_len,h1];simp [tz]
  have hg:∀ i:Nat,gs r c i=-(bSum (rn.take (i+1)):Int)+(bMin (i+1) cn:Int):=by
    intro i
    rw [gs,h1,tz_take,bSum_tz,perm_sum (h2.map fun x:Int=>min x ((i:Int)+1)),← bMin_tz]
    simp
  have e1:decide (r.sum=c.sum)=decide (bSum rn=bSum cn):=by
    rw [decide_eq_decide];omega
  have e2:noneNeg (gale r c)=bGr rn 0 0 cn:=by
    rw [Bool.eq_iff_iff,bGr_iff]
    simp only [noneNeg,gale,mapR,List.all_eq_true,List.mem_map,List.mem_range,decide_eq_true_eq,forall_exists_index,and_imp,forall_apply_eq_imp_iff₂,hg,hl]
    constructor
    · intro h i hi;have:=h i hi;rw [show 0+i+1=i+1 by omega];omega
    · intro h i hi;have:=h i hi;rw [show 0+i+1=i+1 by omega] at this;omega
  rw [gr,e1,e2]
theorem bNth_get:∀ (p:Nat) (l:List Nat),bNth p l=l.getD p 0
  | _,[]=>by simp [bNth]
  | 0,x::r=>by simp [bNth]
  | p+1,x::r=>by rw [bNth,bNth_get p r];simp
theorem bDel_erase:∀ (p:Nat) (l:List Nat),bDel p l=l.eraseIdx p
  | _,[]=>by simp [bDel]
  | 0,x::r=>by simp [bDel]
  | p+1,x::r=>by rw [bDel,bDel_erase p r];simp
theorem bDel_sum:∀ (p:Nat) (l:List Nat),bSum (bDel p l)+bNth p l=bSum l
  | _,[]=>by simp [bDel,bNth]
  | 0,x::r=>by show bSum r+x=x+bSum r;omega
  | p+1,x::r=>by
    have:=bDel_sum p r
    show (x+bSum (bDel p r))+bNth p r=x+bSum r
    omega
theorem bDec_sum:∀ (x:Nat) (l:List Nat),bPos x l=true→bSum (bDec x l)+x=bSum l
  | 0,l,_=>by simp [bDec]
  | x+1,[],h=>by simp [bPos] at h
  | x+1,y::r,h=>by
    simp only [bPos,Bool.and_eq_true] at h
    have h1:0 < y:=by have:=h.1;simp [Nat.blt] at this;omega
    have:=bDec_sum x r h.2
    show (Nat.pred y+bSum (bDec x r))+(x+1)=y+bSum r
    rw [Nat.pred_eq_sub_one]
    omega
theorem bDec_map:∀ (x:Nat) (S:List Int) (f g:Int→Nat),(∀ j ∈ S.take x,g j=f j - 1)→(∀ j ∈ S.drop x,g j=f j)→bDec x (S.map f)=S.map g
  | 0,S,f,g,_,h=>by
    show S.map f=S.map g
    exact List.map_congr_left fun j hj=>(h j (by simpa using hj)).symm
  | x+1,[],f,g,_,_=>rfl
  | x+1,j::S,f,g,h1,h2=>by
    show Nat.pred (f j)::bDec x (S.map f)=g j::S.map g
    rw [bDec_map x S f g (fun k hk=>h1 k (by simp [hk])) (fun k hk=>h2 k (by simpa using hk)),h1 j (by simp)]
    rfl
theorem bPos_map:∀ (x:Nat) (S:List Int) (f:Int→Nat),x≤S.length→(bPos x (S.map f)=true ↔ ∀ j ∈ S.take x,0 < f j)
  | 0,S,f,_=>by simp [bPos]
  | x+1,[],f,h=>by simp at h
  | x+1,j::S,f,h=>by
    show (Nat.blt 0 (f j) && bPos x (S.map f))=true ↔ _
    rw [Bool.and_eq_true,bPos_map x S f (by simpa using h)]
    simp [Nat.blt]
    intro _;omega
theorem takeT_what (i:Nat):∀ (js c:List Int) (t:List (List Int)),js.Nodup→(∀ j ∈ js,0≤j∧j < c.length) →
    (takeT i js c t=none∧∃ j ∈ js,c.getD j.toNat 0=0) ∨
    (∃ c' t',takeT i js c t=some (c',t')∧(∀ j ∈ js,c.getD j.toNat 0 ≠ 0)∧c'.length=c.length∧∀ k:Nat,c'.getD k 0=c.getD k 0 - if (k:Int) ∈ js then 1 else 0)
  | [],c,t,_,_=>.inr ⟨c,t,rfl,by simp,rfl,by simp⟩
  | j::js,c,t,hn,hj=>by
    obtain ⟨hn1,hn2⟩:=List.nodup_cons.1 hn
    have hjc:=hj j (by simp)
    have hl:(decAt c j.toNat).length=c.length:=by simp [decAt]
    have hget:∀ k:Nat,(decAt c j.toNat).getD k 0=c.getD k 0 - if (k:Int)=j then 1 else 0:=by
      intro k
      simp only [decAt,List.getD_eq_getElem?_getD,List.getElem?_set]
      by_cases hk:(k:Int)=j
      · have:j.toNat=k:=by omega
        subst this
        rw [if_pos rfl,if_pos (by omega),if_pos hk]
        simp
      · rw [if_neg (by omega),if_neg hk];simp
    rw [takeT]
    by_cases hz:c.getD j.toNat 0=0
    · rw [if_pos hz];exact .inl ⟨rfl,j,by simp,hz⟩
    · rw [if_neg hz]
      rcases takeT_what i js (decAt c j.toNat) (set2 t i j.toNat 1) hn2 (fun k hk=>by rw [hl];exact hj k (by simp [hk])) with ⟨h1,k,hk,h2⟩ | ⟨c',t',h1,h2,h3,h4⟩
      · refine .inl ⟨h1,k,by simp [hk],?_⟩
        rw [hget,if_neg] at h2
        · omega
        · intro he
          have hkb:=hj k (by simp [hk])
          have:k=j:=by omega
          subst this;exact hn1 hk
      · refine .inr ⟨c',t',h1,fun k hk=>?_,by rw [h3,hl],fun k=>?_⟩
        · rcases List.mem_cons.1 hk with rfl | hk2
          · exact hz
          · have:=h2 k hk2
            rw [hget] at this
            by_cases he:((k.toNat:Nat):Int)=j
            · have hkb:=hj k (by simp [hk2])
              have:k=j:=by omega
              rw [this] at hk2;exact absurd hk2 hn1
            · rw [if_neg he] at this;omega
        · rw [h4,hget]
          by_cases he:(k:Int)=j
          · have hk:¬ (k:Int) ∈ js:=by rw [he];exact hn1
            rw [if_pos he,if_neg hk,if_pos (by simp [he])];omega
          · rw [if_neg he]
            by_cases hk:(k:Int) ∈ js
            · rw [if_pos hk,if_pos (by simp [hk])];omega
            · rw [if_neg hk,if_neg (by simp [hk,he])];omega
theorem erase_perm {α:Type}:∀ (l:List α) (p:Nat) (h:p < l.length),(l[p]::l.eraseIdx p).Perm l
  | [],p,h=>absurd h (by simp)
  | x::r,0,_=>by simp
  | x::r,p+1,h=>by
    have h1:p < r.length:=by simpa using h
    rw [List.eraseIdx_cons_succ,List.getElem_cons_succ]
    exact (List.Perm.swap _ _ _).trans ((erase_perm r p h1).cons x)
theorem erase_map {α β:Type} (f:α→β):∀ (l:List α) (p:Nat),(l.map f).eraseIdx p=(l.eraseIdx p).map f
  | [],p=>by simp
  | x::r,0=>by simp
  | x::r,p+1=>by simp [erase_map f r p]
theorem FalN_of:∀ (l:List Int) (t:Nat),Desc l→(∀ x ∈ l,0≤x∧x≤t)→FalN t (tn l)
  | [],_,_,_=>trivial
  | x::r,t,hd,h=>by
    obtain ⟨h1,h2⟩:=List.pairwise_cons.1 hd
    have hx:=h x (by simp)
    refine ⟨by omega,FalN_of r x.toNat h2 fun y hy=>⟨(h y (by simp [hy])).1,?_⟩⟩
    have:=h1 y hy
    omega
theorem idx_perm (c:List Int) (S:List Int) (h:S.Perm (idxB c.length (-1))):(S.map fun j=>c.getD j.toNat 0).Perm c:=by
  refine (h.map _).trans ?_
  rw [idxB,List.filter_eq_self.2 (by intro a ha;obtain ⟨v,_,rfl⟩:=List.mem_map.1 ha;rw [decide_eq_true_eq];omega),List.map_map]
  have:c=(List.range c.length).map fun v=>c.getD v 0:=by
    apply List.ext_getElem (by simp)
    intro i h1 h2
    simp [List.getD_eq_getElem?_getD,List.getElem?_eq_getElem h1]
  conv=>rhs;rw [this]
  exact .of_eq (List.map_congr_left fun v _=>by simp)
theorem gr_step {h:Nat} (h1:1≤h) (h5:h≤5) (i:Nat) (x:Int) (xs c:List Int) (t:List (List Int)) (hx:∀ y ∈ x::xs,0≤y∧y≤h) (hl:(x::xs).length≤5) (hc:∀ y ∈ c,0≤y∧y≤5) (hcl:c.length=h) :
    (takeT i (topD c (idxB h (-1)) x.toNat) c t=none∧gr (x::xs) c=false) ∨
    (∃ c' t',takeT i (topD c (idxB h (-1)) x.toNat) c t=some (c',t')∧gr (x::xs) c=gr xs c'∧c'.length=h∧∀ y ∈ c',0≤y∧y≤5):=by
  obtain ⟨S,hS⟩:∃ S,S=srtC (gtD c) [] (idxB h (-1)):=⟨_,rfl⟩
  have hidx:idxB h (-1)=(List.range h).map fun v:Nat=>(v:Int):=by
    rw [idxB,List.filter_eq_self.2 (by intro a ha;obtain ⟨v,_,rfl⟩:=List.mem_map.1 ha;rw [decide_eq_true_eq];omega)]
  have hSp:S.Perm (idxB h (-1)):=by rw [hS];simpa using srtC_perm (gtD c) (idxB h (-1)) []
  have hSn:S.Nodup:=by
    refine hSp.nodup_iff.2 ?_
    rw [hidx]
    refine List.Pairwise.map _ ?_ List.nodup_range
    intro a b hab he;exact hab (by omega)
  have hSb:∀ j ∈ S,0≤j∧j < c.length:=by
    intro j hj
    have:=hSp.mem_iff.1 hj
    rw [hidx] at this
    obtain ⟨v,hv,rfl⟩:=List.mem_map.1 this
    have:=List.mem_range.1 hv
    omega
  have hSl:S.length=h:=by rw [hSp.length_eq,hidx];simp
  have hSd:Desc (S.map fun j=>c.getD j.toNat 0):=by
    have:=(srtC_ok (lt:=gtD c) (fun a b d ha hb=>by simp only [gtD,decide_eq_false_iff_not] at *;omega) (fun a b hab=>by simp only [gtD,decide_eq_true_eq,decide_eq_false_iff_not] at *;omega) (idxB h (-1)) [] .nil).1
    rw [← hS] at this
    refine List.Pairwise.map _ ?_ this
    intro a b hab
    simp only [gtD,decide_eq_false_iff_not] at hab
    omega
  have hSc:=idx_perm c S (by rw [hcl];exact hSp)
  have hxb:=hx x (by simp)
  have hxS:x.toNat≤S.length:=by omega
  obtain ⟨p,hp,hpx⟩:=List.mem_iff_getElem.1 ((fall_mem (xs:=x::xs) (x:=x)).2 (by simp))
  have hrn:fall (x::xs)=tz (tn (fall (x::xs))):=(tz_tn fun y hy=>(hx y (fall_mem.1 hy)).1).symm
  have hcn:c.Perm (tz (S.map fun j=>(c.getD j.toNat 0).toNat)):=by
    refine hSc.symm.trans (.of_eq ?_)
    rw [tz,List.map_map]
    refine List.map_congr_left fun j hj=>?_
    have:0≤c.getD j.toNat 0:=by
      have hjb:=hSb j hj
      rw [getD_get (by omega)]
      exact (hc _ (List.getElem_mem _)).1
    simp only [Function.comp];omega
  have e1:=gr_N hrn hcn
  have hwl:(fall (x::xs)).length=xs.length+1:=by rw [fall_len];simp
  have hfx:fall xs=tz (bDel p (tn (fall (x::xs)))):=by
    have h2:((fall (x::xs)).eraseIdx p).Perm xs:=by
      have h3:=erase_perm _ p hp
      rw [hpx] at h3
      exact List.Perm.cons_inv (h3.trans (fall_perm _))
    rw [← fall_unique ((fall_desc _).sublist (List.eraseIdx_sublist _ _)) h2,bDel_erase]
    conv=>lhs;rw [hrn]
    rw [tz,tz,erase_map]
  have hnx:bNth p (tn (fall (x::xs)))=x.toNat:=by
    rw [bNth_get,tn,List.getD_eq_getElem?_getD,List.getElem?_map,List.getElem?_eq_getElem hp,hpx];rfl
  have hds:=bDel_sum p (tn (fall (x::xs)))
  rw [hnx] at hds
  have hcd:(S.map fun j=>(c.getD j.toNat 0).toNat)=tn (S.map fun j=>c.getD j.toNat 0):=by simp [tn]
  have hchk:bSum (tn (fall (x::xs)))=bSum (S.map fun j=>(c.getD j.toNat 0).toNat)→bGr (tn (fall (x::xs))) 0 0 (S.map fun j=>(c.getD j.toNat 0).toNat)=(bPos x.toNat (S.map fun j=>(c.getD j.toNat 0).toNat) && bGr (bDel p (tn (fall (x::xs)))) 0 0 (bDec x.toNat (S.map fun j=>(c.getD j.toNat 0).toNat))):=by
    intro hs
    have:=(bChk_ok (w:=xs.length+1) (h:=h) (by omega) (by simpa using hl) h1 h5 (by simp [tn,hwl]) (by simp [hSl]) (FalN_of _ _ (fall_desc _) fun y hy=>hx y (fall_mem.1 hy)) (by
      rw [hcd]
      refine FalN_of _ _ hSd fun y hy=>?_
      have:=hc y (hSc.mem_iff.1 hy)
      exact this) hs).1 p (by omega)
    rw [hnx] at this
    exact this
  have htop:topD c (idxB h (-1)) x.toNat=S.take x.toNat:=by rw [topD,← hS]
  rw [htop,e1]
  have hpos:=bPos_map x.toNat S (fun j=>(c.getD j.toNat 0).toNat) hxS
  have hcv:∀ j ∈ S,0≤c.getD j.toNat 0∧c.getD j.toNat 0≤5:=by
    intro j hj
    have hjb:=hSb j hj
    rw [getD_get (by omega)]
    exact hc _ (List.getElem_mem _)
  rcases takeT_what i (S.take x.toNat) c t (hSn.sublist (List.take_sublist _ _)) (fun j hj=>hSb j (List.mem_of_mem_take hj)) with ⟨h2,j,hj,hj0⟩ | ⟨c',t',h2,h3,h4,h6⟩
  · refine .inl ⟨h2,?_⟩
    have hf:bPos x.toNat (S.map fun j=>(c.getD j.toNat 0).toNat)=false:=by
      rw [Bool.eq_false_iff]
      intro hh
      have:=hpos.1 hh j hj
      rw [hj0] at this
      simp at this
    by_cases hs:bSum (tn (fall (x::xs)))=bSum (S.map fun j=>(c.getD j.toNat 0).toNat)
    · rw [hchk hs,hf];simp
    · rw [decide_eq_false hs];rfl
  · have hcl':c'.length=h:=by rw [h4,hcl]
    have hSc':=idx_perm c' S (by rw [hcl'];exact hSp)
    have hin:∀ j ∈ S.take x.toNat,c'.getD j.toNat 0=c.getD j.toNat 0 - 1:=by
      intro j hj
      have hjb:=hSb j (List.mem_of_mem_take hj)
      rw [h6,if_pos (by rw [Int.toNat_of_nonneg hjb.1];exact hj)]
    have hout:∀ j ∈ S.drop x.toNat,c'.getD j.toNat 0=c.getD j.toNat 0:=by
      intro j hj
      have hjb:=hSb j (List.mem_of_mem_drop hj)
      rw [h6,if_neg,Int.sub_zero]
      rw [Int.toNat_of_nonneg hjb.1]
      intro hh
      have hd:(S.take x.toNat++S.drop x.toNat).Nodup:=by rw [List.take_append_drop];exact hSn
      exact (List.nodup_append.1 hd).2.2 j hh j hj rfl
    have hcv':∀ j ∈ S,0≤c'.getD j.toNat 0∧c'.getD j.toNat 0≤5:=by
      intro j hj
      have hb:=hcv j hj
      have hj':j ∈ S.take x.toNat++S.drop x.toNat:=by rw [List.take_append_drop];exact hj
      rcases List.mem_append.1 hj' with hj' | hj'
      · have:=h3 j hj'
        rw [hin j hj'];omega
      · rw [hout j hj'];exact hb
    have hdec:bDec x.toNat (S.map fun j=>(c.getD j.toNat 0).toNat)=S.map fun j=>(c'.getD j.toNat 0).toNat :=
      bDec_map _ _ _ _ (fun j hj=>by rw [hin j hj];omega) (fun j hj=>by rw [hout j hj])
    have hcn':c'.Perm (tz (S.map fun j=>(c'.getD j.toNat 0).toNat)):=by
      refine hSc'.symm.trans (.of_eq ?_)
      rw [tz,List.map_map]
      refine List.map_congr_left fun j hj=>?_
      have:=(hcv' j hj).1
      simp only [Function.comp];omega
    have ht:bPos x.toNat (S.map fun j=>(c.getD j.toNat 0).toNat)=true :=
      hpos.2 fun j hj=>by
        have:=h3 j hj
        have:=(hcv j (List.mem_of_mem_take hj)).1
        show 0 < (c.getD j.toNat 0).toNat
        omega
    have hdc:=bDec_sum _ _ ht
    refine .inr ⟨c',t',h2,?_,hcl',fun y hy=>?_⟩
    · rw [gr_N hfx hcn',← hdec]
      by_cases hs:bSum (tn (fall (x::xs)))=bSum (S.map fun j=>(c.getD j.toNat 0).toNat)
      · rw [hchk hs,ht,Bool.true_and,decide_eq_true hs,decide_eq_true (by omega)]
      · rw [decide_eq_false hs,decide_eq_false (by omega)];rfl
    · obtain ⟨j,hj,rfl⟩:=List.mem_map.1 (hSc'.mem_iff.2 hy)
      exact hcv' j hj
theorem bigr_gr (r c:List Int):bigr r c=(vMar r c && gr r c):=rfl
theorem vMar_comm (r c:List Int):vMar r c=vMar c r:=by
  rw [Bool.eq_iff_iff]
  simp only [vMar,Bool.and_eq_true]
  constructor
  · rintro ⟨a,b,c,d⟩;exact ⟨b,a,d,c⟩
  · rintro ⟨a,b,c,d⟩;exact ⟨b,a,d,c⟩
end Go.Idl
namespace Go.Idl
def rwR:Nat→Nat→List (List Int)
  | 0,k=>if k=0 then [[]] else []
  | m+1,k=>(if 0 < k then (rwR m (k - 1)).map (1::·) else [])++(rwR m k).map (0::·)
theorem rwS_rwR:∀ m pre k,rwS m pre k=(rwR m k).map (pre++·)
  | 0,pre,k=>by rw [rwS,rwR];split <;> simp
  | m+1,pre,k=>by
    rw [rwS,rwR,rwS_rwR m,rwS_rwR m,List.map_append]
    congr 1
    · split
      · rw [List.map_map];refine List.map_congr_left fun s _=>by simp
      · rfl
    · rw [List.map_map];refine List.map_congr_left fun s _=>by simp
theorem mem_rwR:∀ (m k:Nat) (s:List Int),s ∈ rwR m k ↔ s.length=m∧(∀ x ∈ s,x=0 ∨ x=1)∧s.sum=(k:Int)
  | 0,k,s=>by
    rw [rwR]
    constructor
    · intro h
      split at h
      · rw [List.mem_singleton] at h;subst h;exact ⟨rfl,by simp,by simp;omega⟩
      · simp at h
    · rintro ⟨h1,_,h3⟩
      have:=List.length_eq_zero_iff.1 h1
      subst this
      rw [List.sum_nil] at h3
      rw [if_pos (by omega)];simp
  | m+1,k,s=>by
    rw [rwR,List.mem_append]
    constructor
    · rintro (h | h)
      · split at h
        · obtain ⟨u,hu,rfl⟩:=List.mem_map.1 h
          obtain ⟨a1,a2,a3⟩:=(mem_rwR m _ u).1 hu
          refine ⟨by simp [a1],fun x hx=>?_,by rw [List.sum_cons,a3];omega⟩
          rcases List.mem_cons.1 hx with rfl | hx
          · exact .inr rfl
          · exact a2 x hx
        · simp at h
      · obtain ⟨u,hu,rfl⟩:=List.mem_map.1 h
        obtain ⟨a1,a2,a3⟩:=(mem_rwR m _ u).1 hu
        refine ⟨by simp [a1],fun x hx=>?_,by rw [List.sum_cons,a3];omega⟩
        rcases List.mem_cons.1 hx with rfl | hx
        · exact .inl rfl
        · exact a2 x hx
    · rintro ⟨a1,a2,a3⟩
      cases s with
      | nil=>simp at a1
      | cons x s =>
        rw [List.length_cons] at a1
        rw [List.sum_cons] at a3
        have hs:∀ y ∈ s,y=0 ∨ y=1:=fun y hy=>a2 y (by simp [hy])
        have h0:0≤s.sum:=(sum01 s fun y hy=>by have:=hs y hy;omega).1
        rcases a2 x (by simp) with rfl | rfl
        · exact .inr (List.mem_map.2 ⟨s,(mem_rwR m _ s).2 ⟨by omega,hs,by omega⟩,rfl⟩)
        · refine .inl ?_
          rw [if_pos (by omega)]
          exact List.mem_map.2 ⟨s,(mem_rwR m _ s).2 ⟨by omega,hs,by omega⟩,rfl⟩
theorem rwR_nil {m k:Nat} (h:m < k):rwR m k=[]:=by
  refine List.eq_nil_iff_forall_not_mem.2 fun s hs=>?_
  obtain ⟨a1,a2,a3⟩:=(mem_rwR m k s).1 hs
  have:=(sum01 s fun y hy=>by have:=a2 y hy;omega).2
  omega
theorem rwR_nodup:∀ m k,(rwR m k).Nodup
  | 0,k=>by rw [rwR];split <;> simp
  | m+1,k=>by
    have key:∀ (a:Int) (l:List (List Int)),l.Nodup→(l.map (a::·)).Nodup:=fun a l h=>by
      rw [List.Nodup,List.pairwise_map]
      exact h.imp fun h q=>h (by injection q)
    rw [rwR]
    refine List.nodup_append.2 ⟨?_,key _ _ (rwR_nodup m k),?_⟩
    · split
      · exact key _ _ (rwR_nodup m _)
      · simp
    · intro x hx y hy he
      subst he
      split at hx
      · obtain ⟨u,_,rfl⟩:=List.mem_map.1 hx
        obtain ⟨v,_,hv⟩:=List.mem_map.1 hy
        injection hv with h1 _
        omega
      · simp at hx
def sub2:List Int→List Int→Option (List Int)
  | [],r=>some r
  | _::_,[]=>none
  | x::s,y::r=>if x=1 then (if 0 < y then (sub2 s r).map ((y - 1)::·) else none) else (sub2 s r).map (y::·)
def goOn {α:Type}:Option (List Int)→(List Int→List α)→List α
  | none,_=>[]
  | some r,f=>f r
theorem goOn_map {α:Type} (o:Option (List Int)) (y:Int) (f:List Int→List α):goOn (o.map (y::·)) f=goOn o fun r=>f (y::r):=by cases o <;> rfl
theorem flat_nil {α β:Type} (l:List α):(l.flatMap fun _=>([]:List β))=[]:=by
  induction l with
  | nil=>rfl
  | cons x l ih=>rw [List.flatMap_cons,ih];rfl
theorem flat_congr {α β:Type} {l:List α} {f g:α→List β} (h:∀ a ∈ l,f a=g a):l.flatMap f=l.flatMap g:=by
  induction l with
  | nil=>rfl
  | cons x l ih=>rw [List.flatMap_cons,List.flatMap_cons,h x (by simp),ih fun a ha=>h a (by simp [ha])]
theorem flat_map {α β γ:Type} (l:List α) (g:α→β) (f:β→List γ):(l.map g).flatMap f=l.flatMap fun a=>f (g a):=by
  induction l with
  | nil=>rfl
  | cons x l ih=>rw [List.map_cons,List.flatMap_cons,List.flatMap_cons,ih]
theorem flat_app {α β:Type} (a b:List α) (f:α→List β):(a++b).flatMap f=a.flatMap f++b.flatMap f:=by
  induction a with
  | nil=>rfl
  | cons x l ih=>rw [List.cons_append,List.flatMap_cons,List.flatMap_cons,ih,List.append_assoc]
theorem set_midA {α:Type} (a:List α) (x y:α) (b:List α):(a++x::b).set a.length y=a++y::b:=by
  rw [List.set_append_right _ _ (Nat.le_refl _),Nat.sub_self,List.set_cons_zero]
theorem getD_mid {α:Type} (a:List α) (x d:α) (b:List α):(a++x::b).getD a.length d=x:=by
  rw [List.getD_eq_getElem?_getD,List.getElem?_append_right (Nat.le_refl _),Nat.sub_self];rfl
theorem mts_row {w h:Nat} (i M:Nat) (hi:i < w) (hM:(i+1) * h+M=w * h) (l0:List Int) (h0:0 < h) :
    ∀ (m:Nat) (pre rp rs:List Int) (d Z:List (List Int)) (l:List Int),pre.length+m=h→rp.length=pre.length→rs.length=m→d.length=i→l.length=w→Lil l→Lil (rp++rs)→l.set i 0=l0 →
      mts (fun _ _=>true) h (m+M) (i * h+pre.length) l (rp++rs) (d++(pre++List.replicate m 0)::Z) =
        (rwR m (l.getD i 0).toNat).flatMap fun s=>goOn (sub2 s rs) fun r=>mts (fun _ _=>true) h M ((i+1) * h) l0 (rp++r) (d++(pre++s)::Z)
  | 0,pre,rp,rs,d,Z,l,hp,hrp,hrs,hd,hl,ll,lr,hl0=>by
    have hrs0:=List.length_eq_zero_iff.1 hrs
    subst hrs0
    have hil:i < l.length:=by omega
    have hli:=(ll _ (List.getElem_mem hil)).1
    rw [Nat.zero_add,show i * h+pre.length=(i+1) * h by rw [Nat.succ_mul];omega,getD_get hil,rwR]
    by_cases hz:l[i]=0
    · rw [if_pos (by omega)]
      have:l.set i 0=l:=by rw [← hz];exact List.set_getElem_self hil
      rw [this] at hl0
      subst hl0
      simp [sub2,goOn]
    · rw [if_neg (by omega),List.flatMap_nil]
      have hiff:=mts_iff (fun _ _=>true) w h h0 M ((i+1) * h) l (rp++[]) (d++(pre++List.replicate 0 0)::Z) hM hl (by simp;omega) ll lr
      cases hq:mts (fun _ _=>true) h M ((i+1) * h) l (rp++[]) (d++(pre++List.replicate 0 0)::Z) with
      | nil=>rfl
      | cons x y =>
        exfalso
        rw [hq] at hiff
        obtain ⟨f,_,f2,_⟩:=hiff.1 (by simp)
        have:=f2 i hi
        have h2:=cR_le f h h0 i M ((i+1) * h)
        rw [this,getD_get hil] at h2
        omega
  | m+1,pre,rp,rs,d,Z,l,hp,hrp,hrs,hd,hl,ll,lr,hl0=>by
    cases rs with
    | nil=>simp at hrs
    | cons y rs =>
    have hrs':rs.length=m:=by simpa using hrs
    have hil:i < l.length:=by omega
    have hli:=(ll _ (List.getElem_mem hil)).1
    have hj:pre.length < h:=by omega
    have ek:(i * h+pre.length) / h=i:=by rw [Nat.mul_comm,Nat.mul_add_div h0,Nat.div_eq_of_lt hj];omega
    have em:(i * h+pre.length) % h=pre.length:=by rw [Nat.mul_comm,Nat.mul_add_mod,Nat.mod_eq_of_lt hj]
    have hy:0≤y:=(lr y (by simp)).1
    rw [Nat.succ_add,mts,ek,em]
    have eg:(rp++y::rs).getD pre.length 0=y:=by rw [← hrp];exact getD_mid _ _ _ _
    have ed:decAt (rp++y::rs) pre.length=(rp++[y - 1])++rs:=by rw [decAt,eg,← hrp,set_midA];simp
    have es:set2 (d++(pre++List.replicate (m+1) 0)::Z) i pre.length 1=d++((pre++[1])++List.replicate m 0)::Z:=by
      rw [set2,← hd,getD_mid,set_midA,List.replicate_succ,set_midA];simp
    have es0:d++(pre++List.replicate (m+1) 0)::Z=d++((pre++[0])++List.replicate m 0)::Z:=by rw [List.replicate_succ];simp
    have ey:rp++y::rs=(rp++[y])++rs:=by simp
    rw [eg,ed,es]
    have i2:=mts_row i M hi hM l0 h0 m (pre++[0]) (rp++[y]) rs d Z l (by simp;omega) (by simp [hrp]) hrs' hd hl ll (by rw [← ey];exact lr) hl0
    rw [← es0,← ey,show i * h+(pre++[(0:Int)]).length=i * h+pre.length+1 by simp;omega] at i2
    rw [i2]
    by_cases hov:(h:Int) - (pre.length:Int) < l.getD i 0
    · rw [if_pos hov,rwR_nil (by omega)];rfl
    rw [if_neg hov,rwR,flat_app,flat_map]
    congr 1
    · rw [getD_get hil] at hov ⊢
      by_cases hp1:0 < l[i]
      · rw [if_pos (show 0 < l[i].toNat by omega),flat_map]
        by_cases hy0:0 < y
        · rw [if_pos ⟨rfl,hp1,hy0⟩]
          have hg:0 < l.getD i 0:=by rw [getD_get hil];exact hp1
          have hg2:0 < (rp++y::rs).getD pre.length 0:=by rw [eg];exact hy0
          have i1:=mts_row i M hi hM l0 h0 m (pre++[1]) (rp++[y - 1]) rs d Z (decAt l i) (by simp;omega) (by simp [hrp]) hrs' hd (by rw [decAt_len];exact hl) (ll.dec hg) (by rw [← ed];exact lr.dec hg2) (by rw [decAt,List.set_set];exact hl0)
          rw [show i * h+(pre++[(1:Int)]).length=i * h+pre.length+1 by simp;omega] at i1
          rw [i1,decAt_get hil,if_pos rfl,getD_get hil,show (l[i] - 1).toNat=l[i].toNat - 1 by omega]
          refine flat_congr fun s _=>?_
          rw [sub2,if_pos rfl,if_pos hy0,goOn_map]
          congr 1
          funext r
          simp
        · rw [if_neg fun q=>hy0 q.2.2,← flat_nil (rwR m (l[i].toNat - 1))]
          refine flat_congr fun s _=>?_
          rw [sub2,if_pos rfl,if_neg hy0];rfl
      · rw [if_neg fun q=>hp1 q.2.1,if_neg (show ¬ 0 < l[i].toNat by omega)];rfl
    · refine flat_congr fun s _=>?_
      rw [sub2,if_neg (by omega),goOn_map]
      congr 1
      funext r
      simp
theorem lessR_cons (y x:Int) (c s:List Int):lessR (y::c) (x::s)=(y - x)::lessR c s:=by
  rw [lessR,List.length_cons,List.range_succ_eq_map,List.map_cons,List.map_map]
  rfl
theorem sub2_less:∀ (s c:List Int),s.length=c.length→(∀ x ∈ s,x=0 ∨ x=1)→(∀ x ∈ c,0≤x)→sub2 s c=if (∀ x ∈ lessR c s,0≤x) then some (lessR c s) else none
  | [],c,h,_,_=>by
    have:=List.length_eq_zero_iff.1 h.symm
    subst this
    simp [sub2,lessR]
  | x::s,[],h,_,_=>by simp at h
  | x::s,y::c,h,hs,hc=>by
    have ih:=sub2_less s c (by simpa using h) (fun z hz=>hs z (by simp [hz])) (fun z hz=>hc z (by simp [hz]))
    have hy:=hc y (by simp)
    rw [sub2,ih,lessR_cons]
    rcases hs x (by simp) with rfl | rfl
    · rw [if_neg (by omega)]
      by_cases hq:∀ x ∈ lessR c s,0≤x
      · rw [if_pos hq,if_pos (by intro z hz;rcases List.mem_cons.1 hz with rfl | hz;omega;exact hq z hz)];simp
      · rw [if_neg hq,if_neg (fun q=>hq fun z hz=>q z (by simp [hz]))];rfl
    · rw [if_pos rfl]
      by_cases h0:0 < y
      · rw [if_pos h0]
        by_cases hq:∀ x ∈ lessR c s,0≤x
        · rw [if_pos hq,if_pos (by intro z hz;rcases List.mem_cons.1 hz with rfl | hz;omega;exact hq z hz)];simp
        · rw [if_neg hq,if_neg (fun q=>hq fun z hz=>q z (by simp [hz]))];rfl
      · rw [if_neg h0,if_neg (fun q=>h0 (by have:=q (y - 1) (by simp);omega))]
def fiR:List Int→List Int→List (List (List Int))
  | [],c=>if c.sum=0 then [[]] else []
  | x::r,c=>(rwR c.length x.toNat).flatMap fun s=>if (∀ y ∈ lessR c s,0≤y) then (fiR r (lessR c s)).map (s::·) else []
theorem least_zeroA (xs:List Int):least xs=0 ↔ ∀ x ∈ xs,0≤x:=(least_aux xs 0).2
theorem fiS_fiR (r:List Int):∀ (m:Nat) (d:List (List Int)) (c:List Int),d.length+m=r.length→fiS r m d c=(fiR (r.drop d.length) c).map (d++·)
  | 0,d,c,h=>by
    rw [fiS,List.drop_eq_nil_of_le (by omega),fiR]
    split <;> simp
  | m+1,d,c,h=>by
    have hd:d.length < r.length:=by omega
    rw [fiS,List.drop_eq_getElem_cons hd,fiR,getD_get hd,rwS_rwR,flat_map,List.map_flatMap]
    refine flat_congr fun s _=>?_
    rw [List.nil_append]
    by_cases hq:∀ y ∈ lessR c s,0≤y
    · rw [if_pos ((least_zeroA _).2 hq),if_pos hq,fiS_fiR r m (d++[s]) _ (by simp;omega),List.map_map,show (d++[s]).length=d.length+1 by simp]
      refine List.map_congr_left fun t _=>by simp
    · rw [if_neg (fun q=>hq ((least_zeroA _).1 q)),if_neg hq];rfl
theorem nn_less {c s:List Int} (hs:∀ x ∈ s,x=0 ∨ x=1):∀ y ∈ lessR c s,∃ x ∈ c,x - 1≤y∧y≤x:=by
  intro y hy
  simp only [lessR,List.mem_map,List.mem_range] at hy
  obtain ⟨j,hj,rfl⟩:=hy
  refine ⟨c[j],List.getElem_mem hj,?_⟩
  rw [getD_get hj]
  have:s.getD j 0=0 ∨ s.getD j 0=1:=by
    rw [List.getD_eq_getElem?_getD]
    cases ho:s[j]? with
    | none=>exact .inl rfl
    | some z=>exact hs z (List.mem_of_getElem? ho)
  omega
theorem mts_fiR {w h:Nat} (h0:0 < h):∀ (r:List Int) (d:List (List Int)) (c:List Int),d.length+r.length=w→c.length=h→Lil r→Lil c →
    mts (fun _ _=>true) h (r.length * h) (d.length * h) (List.replicate d.length 0++r) c (d++List.replicate r.length (List.replicate h 0))=(fiR r c).map (d++·)
  | [],d,c,hw,hc,lr,lc=>by
    have:=lc.sum
    rw [List.length_nil,Nat.zero_mul,mts,fiR]
    have hz:(List.replicate d.length (0:Int)++[]).sum=0:=by simp
    rw [hz]
    by_cases hq:c.sum=0
    · rw [if_pos hq,if_neg (by omega)];simp
    · rw [if_neg hq,if_pos (by omega)];rfl
  | x::r,d,c,hw,hc,lr,lc=>by
    have hlen:d.length+(r.length+1)=w:=by simpa using hw
    have e1:=mts_row (w:=w) (h:=h) d.length (r.length * h) (by omega) (by rw [← hlen,← Nat.add_mul];congr 1;omega) (List.replicate (d.length+1) 0++r) h0 h [] [] c d (List.replicate r.length (List.replicate h 0)) (List.replicate d.length 0++x::r)
      (by simp) rfl hc rfl (by simp;omega) (fun y hy=>by
        rcases List.mem_append.1 hy with hy | hy
        · have:=(List.mem_replicate.1 hy).2;omega
        · exact lr y hy) (by simpa using lc) (by
        have e:=set_midA (List.replicate d.length (0:Int)) x 0 r
        rw [List.length_replicate] at e
        rw [e,List.replicate_succ'];simp)
    have eg:(List.replicate d.length (0:Int)++x::r).getD d.length 0=x:=by
      have e:=getD_mid (List.replicate d.length (0:Int)) x 0 r
      rwa [List.length_replicate] at e
    rw [eg,List.nil_append,List.nil_append,List.length_nil,Nat.add_zero,← List.replicate_succ] at e1
    rw [List.length_cons,Nat.succ_mul,Nat.add_comm (r.length * h) h,e1,fiR,hc,List.map_flatMap]
    refine flat_congr fun s hs=>?_
    obtain ⟨s1,s2,s3⟩:=(mem_rwR _ _ s).1 hs
    rw [sub2_less s c (by omega) s2 fun y hy=>(lc y hy).1]
    by_cases hq:∀ y ∈ lessR c s,0≤y
    · rw [if_pos hq,if_pos hq]
      have ih:=mts_fiR h0 (w:=w) r (d++[s]) (lessR c s) (by simp;omega) (by rw [lessR_len];exact hc) (fun y hy=>lr y (by simp [hy])) (fun y hy=>by
        obtain ⟨z,hz,z1,z2⟩:=nn_less (c:=c) s2 y hy
        have:=lc z hz
        have:=hq y hy
        omega)
      rw [show (d++[s]).length=d.length+1 by simp] at ih
      show mts _ h _ _ _ ([]++lessR c s) (d++([]++s)::_)=_
      rw [List.nil_append,List.nil_append,show d++s::List.replicate r.length (List.replicate h 0)=(d++[s])++List.replicate r.length (List.replicate h 0) by simp,ih,List.map_map]
      refine List.map_congr_left fun t _=>by simp
    · rw [if_neg hq,if_neg hq];rfl
theorem zeroT_repA (w h:Nat):zeroT w h=List.replicate w (List.replicate h 0):=by
  simp [zeroT,tabF,mapR,List.map_const']
theorem mtA_fiR {r c:List Int} (h0:0 < c.length) (lr:Lil r) (lc:Lil c):mtA r c=fiR r c:=by
  have e:=mts_fiR (w:=r.length) h0 r [] c (by simp) rfl lr lc
  rw [mtA,zeroT_repA]
  simpa using e
theorem fiS_all (r c:List Int):fiS r r.length [] c=fiR r c:=by
  rw [fiS_fiR r r.length [] c (by simp)];simp
theorem getD01 {s:List Int} (hs:∀ x ∈ s,x=0 ∨ x=1) (k:Nat):s.getD k 0=0 ∨ s.getD k 0=1:=by
  rw [List.getD_eq_getElem?_getD]
  cases ho:s[k]? with
  | none=>exact .inl rfl
  | some z=>exact hs z (List.mem_of_getElem? ho)
theorem less_get {c s:List Int} {k:Nat} (hk:k < c.length):(lessR c s).getD k 0=c.getD k 0 - s.getD k 0:=by
  rw [List.getD_eq_getElem?_getD,lessR,List.getElem?_map,List.getElem?_range hk];rfl
theorem mem_fiR:∀ (r c:List Int) (v:List (List Int)),(∀ x ∈ r,0≤x)→(∀ x ∈ c,0≤x) →
    (v ∈ fiR r c ↔ v.map List.sum=r∧(∀ s ∈ v,s.length=c.length∧∀ x ∈ s,x=0 ∨ x=1)∧∀ k,k < c.length→S v (fun s=>s.getD k 0)=c.getD k 0)
  | [],c,v,_,hc=>by
    have hL:∀ {l:List Int},(∀ x ∈ l,0≤x)→l.sum=0→∀ k,l.getD k 0=0:=by
      intro l
      induction l with
      | nil=>intro _ _ k;simp
      | cons y l ih =>
        intro h hs k
        have hy:=h y (by simp)
        have hl:∀ x ∈ l,0≤x:=fun x hx=>h x (by simp [hx])
        have h0:∀ {l:List Int},(∀ x ∈ l,0≤x)→0≤l.sum:=by
          intro l
          induction l with
          | nil=>intro _;simp
          | cons z l ih=>intro h;have:=ih fun x hx=>h x (by simp [hx]);have:=h z (by simp);rw [List.sum_cons];omega
        have:=h0 hl
        rw [List.sum_cons] at hs
        cases k with
        | zero=>rw [List.getD_cons_zero];omega
        | succ k=>rw [List.getD_cons_succ];exact ih hl (by omega) k
    rw [fiR]
    constructor
    · intro h
      split at h
      · rename_i hs
        rw [List.mem_singleton] at h;subst h
        exact ⟨rfl,by simp,fun k _=>by rw [hL hc hs];rfl⟩
      · simp at h
    · rintro ⟨h1,_,h3⟩
      have:v=[]:=List.map_eq_nil_iff.1 h1
      subst this
      have hz:c.sum=0:=zero_sum fun i hi=>(h3 i hi).symm
      rw [if_pos hz];simp
  | x::r,c,v,hr,hc=>by
    have hx:=hr x (by simp)
    have hr':∀ y ∈ r,0≤y:=fun y hy=>hr y (by simp [hy])
    rw [fiR,List.mem_flatMap]
    constructor
    · rintro ⟨s,hs,h⟩
      obtain ⟨s1,s2,s3⟩:=(mem_rwR _ _ s).1 hs
      split at h
      · rename_i hq
        obtain ⟨t,ht,rfl⟩:=List.mem_map.1 h
        obtain ⟨t1,t2,t3⟩:=(mem_fiR r _ t hr' hq).1 ht
        refine ⟨by rw [List.map_cons,t1,s3];congr 1;omega,fun u hu=>?_,fun k hk=>?_⟩
        · rcases List.mem_cons.1 hu with rfl | hu
          · exact ⟨s1,s2⟩
          · have:=t2 u hu
            rw [lessR_len] at this
            exact this
        · rw [S_cons,t3 k (by rw [lessR_len];exact hk),less_get hk];omega
      · simp at h
    · rintro ⟨h1,h2,h3⟩
      cases v with
      | nil=>simp at h1
      | cons s t =>
        rw [List.map_cons] at h1
        injection h1 with a1 a2
        obtain ⟨b1,b2⟩:=h2 s (by simp)
        have hk:∀ k,k < c.length→S t (fun s=>s.getD k 0)=(lessR c s).getD k 0:=fun k hk=>by
          have:=h3 k hk
          rw [S_cons] at this
          rw [less_get hk];omega
        have hq:∀ y ∈ lessR c s,0≤y:=by
          intro y hy
          obtain ⟨k,hkl,rfl⟩:=List.mem_iff_getElem.1 hy
          rw [← getD_get hkl,← hk k (by rwa [lessR_len] at hkl)]
          exact S_nonneg fun u hu=>by have:=getD01 (h2 u (by simp [hu])).2 k;omega
        refine ⟨s,(mem_rwR _ _ s).2 ⟨b1,b2,by omega⟩,?_⟩
        rw [if_pos hq]
        refine List.mem_map.2 ⟨t,(mem_fiR r _ t hr' hq).2 ⟨a2,fun u hu=>?_,fun k hkl=>hk k (by rwa [lessR_len] at hkl)⟩,rfl⟩
        rw [lessR_len]
        exact h2 u (by simp [hu])
theorem fiR_nodup:∀ (r c:List Int),(fiR r c).Nodup
  | [],c=>by rw [fiR];split <;> simp
  | x::r,c=>by
    rw [fiR,List.Nodup,List.pairwise_flatMap]
    refine ⟨fun s _=>?_,?_⟩
    · split
      · rw [List.pairwise_map]
        exact (fiR_nodup r _).imp fun h q=>h (by injection q)
      · exact .nil
    · refine (rwR_nodup c.length x.toNat).imp fun {a b} hab=>?_
      intro p hp q hq he
      subst he
      split at hp
      · split at hq
        · obtain ⟨u,_,rfl⟩:=List.mem_map.1 hp
          obtain ⟨v,_,hv⟩:=List.mem_map.1 hq
          injection hv with h1 _
          exact hab h1.symm
        · simp at hq
      · simp at hp
end Go.Idl
