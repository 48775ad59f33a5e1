/- Part 6 of a proof by an ideal interpreter of the code: its definitions and lemmas. Conditions: none. -/
import Derived.KernelRfl
import Derived.Test.YtigcofjbkijcdaaA5
set_option linter.all false
set_option linter.unusedVariables false
set_option linter.unusedSimpArgs false
namespace Go.Idl
open Go
abbrev Q4:=Int×Int×Int×Int
def sws (xs:List Q4):List (List IV):=xs.map fun s=>[I s.1,I s.2.1,I s.2.2.1,I s.2.2.2]
abbrev O4 (xs:List Q4):IV:=.own 4 (sws xs)
@[simp] theorem sws_len (xs:List Q4):(sws xs).length=xs.length:=by simp [sws]
@[simp] theorem sws_nil:sws []=[]:=rfl
@[simp] theorem sws_take (xs:List Q4) (n:Nat):(sws xs).take n=sws (xs.take n):=by simp [sws,List.map_take]
@[simp] theorem sws_drop (xs:List Q4) (n:Nat):(sws xs).drop n=sws (xs.drop n):=by simp [sws,List.map_drop]
@[simp] theorem sws_one (xs:List Q4) (a b c d:Int):sws xs++[[IV.sc (.int .i64 a),IV.sc (.int .i64 b),IV.sc (.int .i64 c),IV.sc (.int .i64 d)]]=sws (xs++[(a,b,c,d)]):=by simp [sws]
@[simp] theorem sws_get (xs:List Q4) (i:Nat) (h:i < (sws xs).length):(sws xs)[i]=[IV.sc (.int .i64 (xs[i]'(by simpa [sws] using h)).1),IV.sc (.int .i64 (xs[i]'(by simpa [sws] using h)).2.1),IV.sc (.int .i64 (xs[i]'(by simpa [sws] using h)).2.2.1),IV.sc (.int .i64 (xs[i]'(by simpa [sws] using h)).2.2.2)]:=by simp [sws]
@[simp] theorem sws_get? (xs:List Q4) (i:Nat):(sws xs)[i]? = xs[i]?.map fun s=>[IV.sc (.int .i64 s.1),IV.sc (.int .i64 s.2.1),IV.sc (.int .i64 s.2.2.1),IV.sc (.int .i64 s.2.2.2)]:=by simp [sws]
@[simp] theorem sws_all1 (xs:List Q4):((sws xs).all fun x=>x.all IV.plain1)=true:=by
  induction xs with
  | nil=>rfl
  | cons x xs ih=>simp only [sws,List.map_cons,List.all_cons] at *;rw [ih];rfl
@[simp] theorem sws_all2 (xs:List Q4):((sws xs).all fun x=>x.all IV.isData)=true:=by
  induction xs with
  | nil=>rfl
  | cons x xs ih=>simp only [sws,List.map_cons,List.all_cons] at *;rw [ih];rfl
@[simp] theorem sws_noLst (xs:List Q4):noLstLL (sws xs)=true:=by
  induction xs with
  | nil=>rfl
  | cons x xs ih=>simp only [sws,List.map_cons,noLstLL,noLstL,noLstV] at *;rw [ih];rfl
@[simp] theorem frz_sws (xs:List Q4):frzLL (sws xs)=sws xs:=by
  induction xs with
  | nil=>rfl
  | cons x xs ih=>simp only [sws,List.map_cons,frzLL,frzL,frzV] at *;rw [ih]
def row2 (es:List (Int×Int)) (e f:Int×Int):List Q4 :=
  (if mayS es e.1 e.2 f.1 f.2=true then [(e.1,e.2,f.1,f.2)] else [])++(if mayS es e.1 e.2 f.2 f.1=true then [(e.1,e.2,f.2,f.1)] else [])
theorem row2_len (es:List (Int×Int)) (e f:Int×Int):(row2 es e f).length≤2:=by
  simp only [row2,List.length_append];split <;> split <;> simp
theorem row2s_len (es:List (Int×Int)) (e:Int×Int):∀ r:List (Int×Int),(r.flatMap (row2 es e)).length≤2 * r.length
  | []=>by simp
  | f::r=>by
    have h1:=row2_len es e f
    have h2:=row2s_len es e r
    simp only [List.flatMap_cons,List.length_append,List.length_cons];omega
def swl (es:List (Int×Int)):List (Int×Int)→List Q4
  | []=>[]
  | e::r=>r.flatMap (row2 es e)++swl es r
theorem swl_len (es:List (Int×Int)):∀ r:List (Int×Int),r.length≤100→(swl es r).length≤200 * r.length
  | [],_=>by simp [swl]
  | e::r,h=>by
    have h1:=row2s_len es e r
    simp only [List.length_cons] at h
    have h2:=swl_len es r (by omega)
    rw [swl,List.length_append,List.length_cons];omega
set_option maxHeartbeats 4000000 in
theorem sw_in (n:Int) (es:List (Int×Int)) (c:Bool) (hl:es.length≤1000) (i:Nat) (hi:i < es.length):∀ (m k:Nat) (acc:List Q4) (B:Boxes),k+m=es.length→acc.length+2 * m≤4000000 →
    wp tb (.loop z384l15) { T:=[(1,.bptr 0 0 0),(3,O4 acc),(4,I i),(5,I k)],loc:=[I n,L2 es c]::B,M:=[] }
      (fun ex st=>ex=.exit 2∧∃ B',st={ T:=[(1,.bptr 0 0 0),(3,O4 (acc++(es.drop k).flatMap (row2 es es[i]))),(4,I i),(5,I es.length),(24,Bo false)],loc:=[I n,L2 es c]::B',M:=[] }):=by
  intro m
  induction m with
  | zero =>
    intro k acc B hk ha
    have h3:k=es.length:=hk
    subst h3
    refine wp_loop ?_
    repeat (first|apply wp_as|apply wp_ss|refine wr (by simp;with_reducible rfl) ?_|refine wq (by simp;with_reducible rfl) ?_|refine wt (by simpa) ?_|refine wf (by simpa) ?_|refine xt (by simpa) ?_|refine xf (by simpa) ?_|apply wp_bs|apply wp_b|refine wp_sr ?_|refine wp_sx ?_|refine wp_ret' ?_|refine wp_skip' ?_|refine wp_exit' ?_)
    refine ⟨rfl,_,by simp;rfl⟩
  | succ m ih =>
    intro k acc B hk ha
    have hk2:k < es.length:=by omega
    have w1:IntKind.i64.wrap ((k:Int)+1)=((k+1:Nat):Int):=wrapS (by omega)
    have em:=fun cc a b c d=>ev_lim (ev_maySwitch n es cc a b c d (by omega))
    have hd:es.drop k=es[k]::es.drop (k+1):=List.drop_eq_getElem_cons hk2
    rw [hd,List.flatMap_cons]
    have hn:=fun acc B h=>ih (k+1) acc B (by omega) h
    obtain ⟨⟨x1,x2⟩,hx⟩:∃ x,x=es[i]:=⟨_,rfl⟩
    obtain ⟨⟨y1,y2⟩,hy⟩:∃ x,x=es[k]:=⟨_,rfl⟩
    rw [← hx] at hn ⊢
    rw [← hy]
    have hx2:=hx.symm
    have hy2:=hy.symm
    have hl1:acc.length+1≤274877906944:=by omega
    have hl2:acc.length≤274877906943:=by omega
    have hl3:acc.length+1+1≤274877906944:=by omega
    have hl4:acc.length+1≤274877906943:=by omega
    have hT:∀ x:Q4,List.take (acc.length+1) (acc++[x])=acc++[x]:=fun x=>List.take_of_length_le (by simp)
    have hT2:List.take acc.length acc=acc:=List.take_of_length_le (Nat.le_refl _)
    have hT3:∀ x y:Q4,List.take (acc.length+1+1) (acc++[x,y])=acc++[x,y]:=fun x y=>List.take_of_length_le (by simp)
    have hB:=B.length
    cases k1:mayS es x1 x2 y1 y2 with
    | false =>
      cases k2:mayS es x1 x2 y2 y1 with
      | false =>
        refine wp_loop ?_
        repeat (first|apply wp_as|apply wp_ss|refine wr (by simp [hi,hk2,w1,hx2,hy2,em,k1,k2,hl1,hl2,hT,hT2];with_reducible rfl) ?_|refine wq (by simp [hi,hk2,w1,hx2,hy2,em,k1,k2,hl1,hl2,hT,hT2];with_reducible rfl) ?_|refine wt (by simpa [hi,hk2,w1,hx2,hy2,em,k1,k2,hl1,hl2,hT,hT2]) ?_|refine wf (by simpa [hi,hk2,w1,hx2,hy2,em,k1,k2,hl1,hl2,hT,hT2]) ?_|refine xt (by simpa [hi,hk2,w1,hx2,hy2,em,k1,k2,hl1,hl2,hT,hT2]) ?_|refine xf (by simpa [hi,hk2,w1,hx2,hy2,em,k1,k2,hl1,hl2,hT,hT2]) ?_|apply wp_bs|apply wp_b|refine wp_sr ?_|refine wp_sx ?_|refine wp_ret' ?_|refine wp_skip' ?_|refine wp_exit' ?_)
        have hh:=hn acc (B++[[I x1,I x2],[I y1,I y2],[I x1,I x2,I y1,I y2],[I x1,I x2,I y2,I y1]]) (by omega)
        simp only [row2,k1,k2]
        simpa using hh
      | true =>
        refine wp_loop ?_
        repeat (first|apply wp_as|apply wp_ss|refine wr (by simp [hi,hk2,w1,hx2,hy2,em,k1,k2,hl1,hl2,hT,hT2];with_reducible rfl) ?_|refine wq (by simp [hi,hk2,w1,hx2,hy2,em,k1,k2,hl1,hl2,hT,hT2];with_reducible rfl) ?_|refine wt (by simpa [hi,hk2,w1,hx2,hy2,em,k1,k2,hl1,hl2,hT,hT2]) ?_|refine wf (by simpa [hi,hk2,w1,hx2,hy2,em,k1,k2,hl1,hl2,hT,hT2]) ?_|refine xt (by simpa [hi,hk2,w1,hx2,hy2,em,k1,k2,hl1,hl2,hT,hT2]) ?_|refine xf (by simpa [hi,hk2,w1,hx2,hy2,em,k1,k2,hl1,hl2,hT,hT2]) ?_|apply wp_bs|apply wp_b|refine wp_sr ?_|refine wp_sx ?_|refine wp_ret' ?_|refine wp_skip' ?_|refine wp_exit' ?_)
        have hh:=hn (acc++[(x1,x2,y2,y1)]) (B++[[I x1,I x2],[I y1,I y2],[I x1,I x2,I y1,I y2],[I x1,I x2,I y2,I y1]]) (by simp;omega)
        simp only [row2,k1,k2]
        simpa using hh
    | true =>
      cases k2:mayS es x1 x2 y2 y1 with
      | false =>
        refine wp_loop ?_
        repeat (first|apply wp_as|apply wp_ss|refine wr (by simp [hi,hk2,w1,hx2,hy2,em,k1,k2,hl1,hl2,hT,hT2];with_reducible rfl) ?_|refine wq (by simp [hi,hk2,w1,hx2,hy2,em,k1,k2,hl1,hl2,hT,hT2];with_reducible rfl) ?_|refine wt (by simpa [hi,hk2,w1,hx2,hy2,em,k1,k2,hl1,hl2,hT,hT2]) ?_|refine wf (by simpa [hi,hk2,w1,hx2,hy2,em,k1,k2,hl1,hl2,hT,hT2]) ?_|refine xt (by simpa [hi,hk2,w1,hx2,hy2,em,k1,k2,hl1,hl2,hT,hT2]) ?_|refine xf (by simpa [hi,hk2,w1,hx2,hy2,em,k1,k2,hl1,hl2,hT,hT2]) ?_|apply wp_bs|apply wp_b|refine wp_sr ?_|refine wp_sx ?_|refine wp_ret' ?_|refine wp_skip' ?_|refine wp_exit' ?_)
        have hh:=hn (acc++[(x1,x2,y1,y2)]) (B++[[I x1,I x2],[I y1,I y2],[I x1,I x2,I y1,I y2],[I x1,I x2,I y2,I y1]]) (by simp;omega)
        simp only [row2,k1,k2]
        simpa using hh
      | true =>
        refine wp_loop ?_
        repeat (first|apply wp_as|apply wp_ss|refine wr (by simp [hi,hk2,w1,hx2,hy2,em,k1,k2,hl1,hl2,hl3,hl4,hT,hT2,hT3];with_reducible rfl) ?_|refine wq (by simp [hi,hk2,w1,hx2,hy2,em,k1,k2,hl1,hl2,hl3,hl4,hT,hT2,hT3];with_reducible rfl) ?_|refine wt (by simpa [hi,hk2,w1,hx2,hy2,em,k1,k2,hl1,hl2,hl3,hl4,hT,hT2,hT3]) ?_|refine wf (by simpa [hi,hk2,w1,hx2,hy2,em,k1,k2,hl1,hl2,hl3,hl4,hT,hT2,hT3]) ?_|refine xt (by simpa [hi,hk2,w1,hx2,hy2,em,k1,k2,hl1,hl2,hl3,hl4,hT,hT2,hT3]) ?_|refine xf (by simpa [hi,hk2,w1,hx2,hy2,em,k1,k2,hl1,hl2,hl3,hl4,hT,hT2,hT3]) ?_|apply wp_bs|apply wp_b|refine wp_sr ?_|refine wp_sx ?_|refine wp_ret' ?_|refine wp_skip' ?_|refine wp_exit' ?_)
        have hh:=hn (acc++[(x1,x2,y1,y2),(x1,x2,y2,y1)]) (B++[[I x1,I x2],[I y1,I y2],[I x1,I x2,I y1,I y2],[I x1,I x2,I y2,I y1]]) (by simp;omega)
        simp only [row2,k1,k2]
        simpa using hh
theorem ev_spec_switches (n:Int) (es:List (Int×Int)) (c:Bool) (hl:es.length≤1000) :
    Ev tb zl384 [] [Gr n es c] [] ⟨O4 (swl es es),[],[],[]⟩:=by
  have loop:∀ (m i:Nat) (acc:List Q4) (B:Boxes),i+m=es.length→acc.length+2000 * m≤3000000 →
      wp tb (.loop z384l17) { T:=[(1,.bptr 0 0 0),(3,O4 acc),(4,I i)],loc:=[I n,L2 es c]::B,M:=[] }
      (fun ex st=>ex=.exit 0∧∃ B',st={ T:=[(1,.bptr 0 0 0),(3,O4 (acc++swl es (es.drop i))),(4,I es.length),(15,Bo false)],loc:=[I n,L2 es c]::B',M:=[] }):=by
    intro m
    induction m with
    | zero =>
      intro i acc B hi ha
      have h3:i=es.length:=hi
      subst h3
      refine wp_loop ?_
      repeat (first|apply wp_as|apply wp_ss|refine wr (by simp;with_reducible rfl) ?_|refine wq (by simp;with_reducible rfl) ?_|refine wt (by simpa) ?_|refine wf (by simpa) ?_|refine xt (by simpa) ?_|refine xf (by simpa) ?_|apply wp_bs|apply wp_b|refine wp_sr ?_|refine wp_sx ?_|refine wp_ret' ?_|refine wp_skip' ?_|refine wp_exit' ?_)
      refine ⟨rfl,_,by simp [swl];rfl⟩
    | succ m ih =>
      intro i acc B hi ha
      have hi2:i < es.length:=by omega
      have w1:IntKind.i64.wrap ((i:Int)+1)=((i+1:Nat):Int):=wrapS (by omega)
      have hd:es.drop i=es[i]::es.drop (i+1):=List.drop_eq_getElem_cons hi2
      refine wp_loop ?_
      repeat (first|apply wp_as|apply wp_ss|refine wr (by simp [hi2,w1];with_reducible rfl) ?_|refine wq (by simp [hi2,w1];with_reducible rfl) ?_|refine wt (by simpa [hi2,w1]) ?_|refine wf (by simpa [hi2,w1]) ?_|refine xt (by simpa [hi2,w1]) ?_|refine xf (by simpa [hi2,w1]) ?_|apply wp_bs|apply wp_b|refine wp_sr ?_|refine wp_sx ?_|refine wp_ret' ?_|refine wp_skip' ?_|refine wp_exit' ?_)
      refine wp_imp (sw_in n es c hl i hi2 m (i+1) acc B (by omega) (by omega)) ?_
      rintro ex st ⟨rfl,B',rfl⟩
      simp only [if_true]
      repeat (first|apply wp_as|apply wp_ss|refine wr (by simp [w1];with_reducible rfl) ?_|refine wq (by simp [w1];with_reducible rfl) ?_|refine wt (by simpa [w1]) ?_|refine wf (by simpa [w1]) ?_|refine xt (by simpa [w1]) ?_|refine xf (by simpa [w1]) ?_|apply wp_bs|apply wp_b|refine wp_sr ?_|refine wp_sx ?_|refine wp_ret' ?_|refine wp_skip' ?_|refine wp_exit' ?_)
      have hrl:=row2s_len es es[i] (es.drop (i+1))
      simp only [List.length_drop] at hrl
      have hn:=ih (i+1) (acc++(es.drop (i+1)).flatMap (row2 es es[i])) B' (by omega) (by simp only [List.length_append];omega)
      rw [hd,swl]
      simp only [List.append_assoc] at hn
      exact hn
  refine call_of_wp zt384 rfl ?_
  repeat (first|apply wp_as|apply wp_ss|refine wr (by simp;with_reducible rfl) ?_|refine wq (by simp;with_reducible rfl) ?_|refine wt (by simpa) ?_|refine wf (by simpa) ?_|refine xt (by simpa) ?_|refine xf (by simpa) ?_|apply wp_bs|apply wp_b|refine wp_sr ?_|refine wp_sx ?_|refine wp_ret' ?_|refine wp_skip' ?_|refine wp_exit' ?_)
  refine wp_imp (loop es.length 0 [] [] (by simp) (by simp;omega)) ?_
  rintro ex st ⟨rfl,B',rfl⟩
  simp only [if_true]
  repeat (first|apply wp_as|apply wp_ss|refine wr (by simp;with_reducible rfl) ?_|refine wq (by simp;with_reducible rfl) ?_|refine wt (by simpa) ?_|refine wf (by simpa) ?_|refine xt (by simpa) ?_|refine xf (by simpa) ?_|apply wp_bs|apply wp_b|refine wp_sr ?_|refine wp_sx ?_|refine wp_ret' ?_|refine wp_skip' ?_|refine wp_exit' ?_)
  simp [zi384]
end Go.Idl
namespace Go.Idl
open Go
def tab (t:List (List Int)):List (List IV):=t.map fun r=>[.lst 1 (ints r) false]
def oab (t:List (List Int)):List (List IV):=t.map fun r=>[.own 1 (ints r)]
@[simp] theorem tab_len (t:List (List Int)):(tab t).length=t.length:=by simp [tab]
@[simp] theorem oab_len (t:List (List Int)):(oab t).length=t.length:=by simp [oab]
@[simp] theorem oab_nil:oab []=[]:=rfl
@[simp] theorem tab_get? (t:List (List Int)) (i:Nat):(tab t)[i]? = t[i]?.map fun r=>[IV.lst 1 (ints r) false]:=by simp [tab]
@[simp] theorem tab_get (t:List (List Int)) (i:Nat) (h:i < (tab t).length):(tab t)[i]=[IV.lst 1 (ints (t[i]'(by simpa [tab] using h))) false]:=by simp [tab]
@[simp] theorem oab_get? (t:List (List Int)) (i:Nat):(oab t)[i]? = t[i]?.map fun r=>[IV.own 1 (ints r)]:=by simp [oab]
@[simp] theorem oab_get (t:List (List Int)) (i:Nat) (h:i < (oab t).length):(oab t)[i]=[IV.own 1 (ints (t[i]'(by simpa [oab] using h)))]:=by simp [oab]
@[simp] theorem oab_one (t:List (List Int)) (r:List Int):oab t++[[IV.own 1 (ints r)]]=oab (t++[r]):=by simp [oab]
@[simp] theorem oab_set (t:List (List Int)) (i:Nat) (r:List Int):(oab t).set i [IV.own 1 (ints r)]=oab (t.set i r):=by simp [oab,List.map_set]
@[simp] theorem oab_take (t:List (List Int)) (n:Nat):(oab t).take n=oab (t.take n):=by simp [oab,List.map_take]
@[simp] theorem frz_oab (t:List (List Int)):frzLL (oab t)=tab t:=by
  induction t with
  | nil=>rfl
  | cons x xs ih =>
    simp only [oab,tab,List.map_cons,frzLL,frzL,frzV] at *
    rw [ih]
    have:frzLL (ints x)=ints x:=by
      clear ih
      induction x with
      | nil=>rfl
      | cons y ys ih=>simp only [ints,List.map_cons,frzLL,frzL,frzV] at *;rw [ih]
    rw [this]
@[simp] theorem tab_all1 (t:List (List Int)):((tab t).all fun x=>x.all IV.plain1)=true:=by
  induction t with
  | nil=>rfl
  | cons x xs ih=>simp only [tab,List.map_cons,List.all_cons] at *;rw [ih];rfl
@[simp] theorem oab_noLst (t:List (List Int)):noLstLL (oab t)=true:=by
  induction t with
  | nil=>rfl
  | cons x xs ih =>
    simp only [oab,List.map_cons,noLstLL,noLstL,noLstV] at *
    rw [ih,ints_noLst];rfl
def g2 (t:List (List Int)) (a b:Nat):Int:=(t.getD a []).getD b 0
end Go.Idl
namespace Go.Idl
open Go
def asc0 (s:List Int):List Int:=(fall s).reverse
def overT (s:List Int) (i:Nat):Int:=((asc0 s).take (i+1)).sum - ((i:Int)+1) * i / 2
def over (s:List Int):List Int:=mapR s.length (overT s)
end Go.Idl
namespace Go.Idl
open Go
theorem sum01 (r:List Int) (h:∀ x ∈ r,0≤x∧x≤1):0≤r.sum∧r.sum≤r.length:=by
  induction r with
  | nil=>simp
  | cons x xs ih =>
    have h1:=h x (by simp)
    have h2:=ih fun y hy=>h y (by simp [hy])
    simp only [List.sum_cons,List.length_cons];omega
end Go.Idl
namespace Go.Idl
open Go
abbrev L4 (xs:List Q4) (c:Bool):IV:=.lst 4 (sws xs) c
end Go.Idl
namespace Go.Idl
open Go Go.ChangeShapes Go.WideShapes Go.Deep
theorem tabS_eds (len:Nat) (f:Nat→Int):tabS 2 len f=eds ((List.range len).map fun i=>(f (i * 2),f (i * 2+1))):=by
  rw [tabS,eds,List.map_map]
  exact List.map_congr_left fun i _=>by simp [List.range_succ]
section
variable {H:Type} {enc:TypeId×Value→H} {P:Program} {w:World} {base:Nat} {spare:Nat→Bool} {held:Bool}
theorem graph_in {t0 t e:TypeId} {fs:Array Field} {n1 n2:Nat} {u0 u1:Value} {y0 y1:DataW H×List MemPlace} (hi:P.underlying t0=some (.int .i64)) (g0:DataW.trod enc P w base spare held n1 t0 [u0]=some y0)
    (ht:P.underlying t=some (.slice e)) (he:P.underlying e=some (.struct fs)) (hone:(oneCellFields P fs && (P.cellsOf e == 2))=true) (hsz:fs.size=2) (hk:intF P fs=true)
    (g1:DataW.trod enc P w base spare held n2 t [u1]=some y1):∃ (n:Int) (es:List (Int×Int)),Fit es∧es.length < 9223372036854775808∧ArgR w (Gr n es false) (.agg #[u0,u1]):=by
  simp only [Bool.and_eq_true,beq_iff_eq] at hone
  obtain ⟨z,hz,-,-⟩:=DataW.trod_int hi g0
  obtain ⟨a,len,cap,f,hcs,hl,hr,hd⟩:=open_rows ht he hone.1 (by rw [hone.2,hsz]) (by omega) hk g1
  simp only [List.cons.injEq,and_true] at hz hcs
  subst hz hcs
  rw [hsz,tabS_eds] at hd
  refine ⟨z,_,fun x hx=>?_,by simpa using hl,arg_pair rfl hd⟩
  obtain ⟨i,-,rfl⟩:=List.mem_map.1 hx
  exact ⟨(hr _).1,(hr _).2,(hr _).1,(hr _).2⟩
end
end Go.Idl
namespace Go.Idl
open Go
@[simp] theorem fi_cons (p:IV→Bool) (x:IV) (xs:List IV):(x::xs).findIdx? p=if p x then some 0 else (xs.findIdx? p).map (·+1):=List.findIdx?_cons
@[simp] theorem eds_rep (n:Nat):List.replicate n [IV.sc (.int .i64 0),IV.sc (.int .i64 0)]=eds (List.replicate n (0,0)):=by simp [eds]
theorem ev_toEdge (a b:Int):Ev tb zl62 [] [.agg [I a,I b]] [] ⟨.agg [I a,I b],[],[],[]⟩:=by
  refine call_of_wp zt62 rfl ?_
  repeat (first|apply wp_as|apply wp_ss|refine wr (by simp;with_reducible rfl) ?_|refine wq (by simp;with_reducible rfl) ?_|refine wt (by simpa) ?_|refine wf (by simpa) ?_|refine xt (by simpa) ?_|refine xf (by simpa) ?_|apply wp_bs|apply wp_b|refine wp_sr ?_|refine wp_sx ?_|refine wp_ret' ?_|refine wp_skip' ?_|refine wp_exit' ?_)
  simp [zi62]
theorem toE_loop (a:List (Int×Int)) (c:Bool) (hl:a.length≤2000000):∀ (m i:Nat) (A:List (Int×Int)),i+m=a.length→A.length=a.length→A.take i=a.take i →
    wp tb (.loop z63l6) { T:=[(0,L2 a c),(3,O2 A),(4,I i)],loc:=[],M:=[] }
      (fun ex st=>ex=.exit 0∧st={ T:=[(0,L2 a c),(3,O2 a),(4,I a.length),(11,Bo false)],loc:=[],M:=[] }):=by
  intro m
  induction m with
  | zero =>
    intro i A hi hA ht
    have h3:i=a.length:=hi
    subst h3
    rw [List.take_of_length_le (by omega),List.take_of_length_le (by omega)] at ht
    rw [ht]
    refine wp_loop ?_
    repeat (first|apply wp_as|apply wp_ss|refine wr (by simp;with_reducible rfl) ?_|refine wq (by simp;with_reducible rfl) ?_|refine wt (by simpa) ?_|refine wf (by simpa) ?_|refine xt (by simpa) ?_|refine xf (by simpa) ?_|apply wp_bs|apply wp_b|refine wp_sr ?_|refine wp_sx ?_|refine wp_ret' ?_|refine wp_skip' ?_|refine wp_exit' ?_)
    exact ⟨rfl,rfl⟩
  | succ m ih =>
    intro i A hi hA ht
    have hi2:i < a.length:=by omega
    have hi3:i < A.length:=by omega
    have w2:IntKind.i64.wrap ((i:Int)+1)=((i+1:Nat):Int):=wrapS (by omega)
    have hg:=ih (i+1) (A.set i a[i]) (by omega) (by simpa using hA) (by
      rw [List.take_succ_eq_append_getElem (by simpa using hi3),List.take_succ_eq_append_getElem hi2,List.take_set_of_le (Nat.le_refl _),ht];simp)
    obtain ⟨⟨p,q⟩,hx⟩:∃ x,x=a[i]:=⟨_,rfl⟩
    have hx:=hx.symm
    rw [hx] at hg
    have e1:=ev_lim (ev_toEdge p q)
    refine wp_loop ?_
    repeat (first|apply wp_as|apply wp_ss|refine wr (by simp [hi2,hi3,w2,hx,e1];with_reducible rfl) ?_|refine wq (by simp [hi2,hi3,w2,hx,e1];with_reducible rfl) ?_|refine wt (by simpa [hi2,hi3,w2,hx,e1]) ?_|refine wf (by simpa [hi2,hi3,w2,hx,e1]) ?_|refine xt (by simpa [hi2,hi3,w2,hx,e1]) ?_|refine xf (by simpa [hi2,hi3,w2,hx,e1]) ?_|apply wp_bs|apply wp_b|refine wp_sr ?_|refine wp_sx ?_|refine wp_ret' ?_|refine wp_skip' ?_|refine wp_exit' ?_)
    exact hg
theorem ev_toEdgeS (a:List (Int×Int)) (c:Bool) (hl:a.length≤2000000):Ev tb zl63 [] [L2 a c] [] ⟨O2 a,[],[],[]⟩:=by
  have hlo:=toE_loop a c hl a.length 0 (List.replicate a.length (0,0)) (by omega) (by simp) (by simp)
  rw [show ((0:Nat):Int)=0 from rfl] at hlo
  have hl2:a.length≤274877906944:=by omega
  refine call_of_wp zt63 rfl ?_
  repeat (first|apply wp_as|apply wp_ss|refine wr (by simp [hl2];with_reducible rfl) ?_|refine wq (by simp [hl2];with_reducible rfl) ?_|refine wt (by simpa [hl2]) ?_|refine wf (by simpa [hl2]) ?_|refine xt (by simpa [hl2]) ?_|refine xf (by simpa [hl2]) ?_|apply wp_bs|apply wp_b|refine wp_sr ?_|refine wp_sx ?_|refine wp_ret' ?_|refine wp_skip' ?_|refine wp_exit' ?_)
  refine wp_imp hlo ?_
  rintro ex st ⟨rfl,rfl⟩
  try simp only [if_true]
  repeat (first|apply wp_as|apply wp_ss|refine wr (by simp;with_reducible rfl) ?_|refine wq (by simp;with_reducible rfl) ?_|refine wt (by simpa) ?_|refine wf (by simpa) ?_|refine xt (by simpa) ?_|refine xf (by simpa) ?_|apply wp_bs|apply wp_b|refine wp_sr ?_|refine wp_sx ?_|refine wp_ret' ?_|refine wp_skip' ?_|refine wp_exit' ?_)
  simp [zi63]
theorem ev_toGraph (n:Int) (a:List (Int×Int)) (c:Bool) (hl:a.length≤2000000):Ev tb zl64 [] [Gr n a c] [] ⟨OG n a,[],[],[]⟩:=by
  have e1:=fun c=>ev_lim (ev_toEdgeS a c hl)
  refine call_of_wp zt64 rfl ?_
  repeat (first|apply wp_as|apply wp_ss|refine wr (by simp [e1];with_reducible rfl) ?_|refine wq (by simp [e1];with_reducible rfl) ?_|refine wt (by simpa [e1]) ?_|refine wf (by simpa [e1]) ?_|refine xt (by simpa [e1]) ?_|refine xf (by simpa [e1]) ?_|apply wp_bs|apply wp_b|refine wp_sr ?_|refine wp_sx ?_|refine wp_ret' ?_|refine wp_skip' ?_|refine wp_exit' ?_)
  simp [zi64]
theorem ev_eqEdge (a b:Int):Ev tb zl48 [] [.agg [I a,I b],.agg [I a,I b]] [] ⟨Bo true,[],[],[]⟩:=by
  refine call_of_wp zt48 rfl ?_
  repeat (first|apply wp_as|apply wp_ss|refine wr (by simp;with_reducible rfl) ?_|refine wq (by simp;with_reducible rfl) ?_|refine wt (by simpa) ?_|refine wf (by simpa) ?_|refine xt (by simpa) ?_|refine xf (by simpa) ?_|apply wp_bs|apply wp_b|refine wp_sr ?_|refine wp_sx ?_|refine wp_ret' ?_|refine wp_skip' ?_|refine wp_exit' ?_)
  simp [zi48]
theorem eqE_loop (a:List (Int×Int)) (c d:Bool) (hl:a.length≤2000000):∀ (m i:Nat),i+m=a.length →
    wp tb (.loop z49l8) { T:=[(0,L2 a c),(1,L2 a d),(5,I i)],loc:=[],M:=[] }
      (fun ex st=>ex=.exit 0∧st={ T:=[(0,L2 a c),(1,L2 a d),(5,I a.length),(14,Bo false)],loc:=[],M:=[] }):=by
  intro m
  induction m with
  | zero =>
    intro i hi
    have h3:i=a.length:=hi
    subst h3
    refine wp_loop ?_
    repeat (first|apply wp_as|apply wp_ss|refine wr (by simp;with_reducible rfl) ?_|refine wq (by simp;with_reducible rfl) ?_|refine wt (by simpa) ?_|refine wf (by simpa) ?_|refine xt (by simpa) ?_|refine xf (by simpa) ?_|apply wp_bs|apply wp_b|refine wp_sr ?_|refine wp_sx ?_|refine wp_ret' ?_|refine wp_skip' ?_|refine wp_exit' ?_)
    exact ⟨rfl,rfl⟩
  | succ m ih =>
    intro i hi
    have hi2:i < a.length:=by omega
    have w2:IntKind.i64.wrap ((i:Int)+1)=((i+1:Nat):Int):=wrapS (by omega)
    have hg:=ih (i+1) (by omega)
    obtain ⟨⟨p,q⟩,hx⟩:∃ x,x=a[i]:=⟨_,rfl⟩
    have hx:=hx.symm
    have e1:=ev_lim (ev_eqEdge p q)
    refine wp_loop ?_
    repeat (first|apply wp_as|apply wp_ss|refine wr (by simp [hi2,w2,hx,e1];with_reducible rfl) ?_|refine wq (by simp [hi2,w2,hx,e1];with_reducible rfl) ?_|refine wt (by simpa [hi2,w2,hx,e1]) ?_|refine wf (by simpa [hi2,w2,hx,e1]) ?_|refine xt (by simpa [hi2,w2,hx,e1]) ?_|refine xf (by simpa [hi2,w2,hx,e1]) ?_|apply wp_bs|apply wp_b|refine wp_sr ?_|refine wp_sx ?_|refine wp_ret' ?_|refine wp_skip' ?_|refine wp_exit' ?_)
    exact hg
theorem ev_eqEdgeS (a:List (Int×Int)) (c d:Bool) (hl:a.length≤2000000):Ev tb zl49 [] [L2 a c,L2 a d] [] ⟨Bo true,[],[],[]⟩:=by
  have hlo:=eqE_loop a c d hl a.length 0 (by omega)
  rw [show ((0:Nat):Int)=0 from rfl] at hlo
  refine call_of_wp zt49 rfl ?_
  repeat (first|apply wp_as|apply wp_ss|refine wr (by simp;with_reducible rfl) ?_|refine wq (by simp;with_reducible rfl) ?_|refine wt (by simpa) ?_|refine wf (by simpa) ?_|refine xt (by simpa) ?_|refine xf (by simpa) ?_|apply wp_bs|apply wp_b|refine wp_sr ?_|refine wp_sx ?_|refine wp_ret' ?_|refine wp_skip' ?_|refine wp_exit' ?_)
  refine wp_imp hlo ?_
  rintro ex st ⟨rfl,rfl⟩
  try simp only [if_true]
  repeat (first|apply wp_as|apply wp_ss|refine wr (by simp;with_reducible rfl) ?_|refine wq (by simp;with_reducible rfl) ?_|refine wt (by simpa) ?_|refine wf (by simpa) ?_|refine xt (by simpa) ?_|refine xf (by simpa) ?_|apply wp_bs|apply wp_b|refine wp_sr ?_|refine wp_sx ?_|refine wp_ret' ?_|refine wp_skip' ?_|refine wp_exit' ?_)
  simp [zi49]
theorem ev_eqGraph (n:Int) (a:List (Int×Int)) (c d:Bool) (hl:a.length≤2000000):Ev tb zl50 [] [Gr n a c,Gr n a d] [] ⟨Bo true,[],[],[]⟩:=by
  have e1:=fun c d=>ev_lim (ev_eqEdgeS a c d hl)
  refine call_of_wp zt50 rfl ?_
  repeat (first|apply wp_as|apply wp_ss|refine wr (by simp [e1];with_reducible rfl) ?_|refine wq (by simp [e1];with_reducible rfl) ?_|refine wt (by simpa [e1]) ?_|refine wf (by simpa [e1]) ?_|refine xt (by simpa [e1]) ?_|refine xf (by simpa [e1]) ?_|apply wp_bs|apply wp_b|refine wp_sr ?_|refine wp_sx ?_|refine wp_ret' ?_|refine wp_skip' ?_|refine wp_exit' ?_)
  simp [zi50]
def mrk2 (k:Int) (n:Nat):List (Int×Int):=(List.range n).map fun i:Nat=>(k+2 * (i:Int),k+2 * (i:Int)+1)
theorem mrk2_len (k:Int) (n:Nat):(mrk2 k n).length=n:=by simp [mrk2]
theorem mrk2_get (k:Int) (n i:Nat) (h:i < (mrk2 k n).length):(mrk2 k n)[i]=(k+2 * (i:Int),k+2 * (i:Int)+1):=by simp [mrk2]
theorem mkE_loop (k:Int) (n:Nat) (hn:n≤10000000) (hk:0≤k∧k≤100000000):∀ (m i:Nat) (A:List (Int×Int)),i+m=n→A.length=n→A.take i=(mrk2 k n).take i →
    wp tb (.loop z56l8) { T:=[(0,O2 A),(1,I (k+2 * i)),(5,I i)],loc:=[],M:=[] }
      (fun ex st=>ex=.exit 0∧st={ T:=[(0,O2 (mrk2 k n)),(1,I (k+2 * n)),(5,I n),(9,Bo false)],loc:=[],M:=[] }):=by
  intro m
  induction m with
  | zero =>
    intro i A hi hA ht
    have h3:i=n:=hi
    subst h3
    rw [List.take_of_length_le (by omega),List.take_of_length_le (by rw [mrk2_len];omega)] at ht
    subst ht
    refine wp_loop ?_
    repeat (first|apply wp_as|apply wp_ss|refine wr (by simp [mrk2_len];with_reducible rfl) ?_|refine wq (by simp [mrk2_len];with_reducible rfl) ?_|refine wt (by simpa [mrk2_len]) ?_|refine wf (by simpa [mrk2_len]) ?_|refine xt (by simpa [mrk2_len]) ?_|refine xf (by simpa [mrk2_len]) ?_|apply wp_bs|apply wp_b|refine wp_sr ?_|refine wp_sx ?_|refine wp_ret' ?_|refine wp_skip' ?_|refine wp_exit' ?_)
    exact ⟨rfl,rfl⟩
  | succ m ih =>
    intro i A hi hA ht
    have hi2:i < A.length:=by omega
    have w2:IntKind.i64.wrap ((i:Int)+1)=((i+1:Nat):Int):=wrapS (by omega)
    have w3:IntKind.i64.wrap (k+2 * (i:Int)+1)=k+2 * (i:Int)+1:=by rw [wrap64 (by omega) (by omega)]
    have w4:IntKind.i64.wrap (k+2 * (i:Int)+1+1)=k+2 * ((i+1:Nat):Int):=by rw [wrap64 (by omega) (by omega)];omega
    have hg:=ih (i+1) (A.set i (k+2 * (i:Int),k+2 * (i:Int)+1)) (by omega) (by simpa using hA) (by
      rw [List.take_succ_eq_append_getElem (by simpa using hi2),List.take_succ_eq_append_getElem (by rw [mrk2_len];omega),List.take_set_of_le (Nat.le_refl _),ht,mrk2_get];simp)
    obtain ⟨⟨p,q⟩,hx⟩:∃ x,x=A[i]:=⟨_,rfl⟩
    have hx:=hx.symm
    refine wp_loop ?_
    repeat (first|apply wp_as|apply wp_ss|refine wr (by simp [hi2,w2,w3,w4,hx];with_reducible rfl) ?_|refine wq (by simp [hi2,w2,w3,w4,hx];with_reducible rfl) ?_|refine wt (by simpa [hi2,w2,w3,w4,hx]) ?_|refine wf (by simpa [hi2,w2,w3,w4,hx]) ?_|refine xt (by simpa [hi2,w2,w3,w4,hx]) ?_|refine xf (by simpa [hi2,w2,w3,w4,hx]) ?_|apply wp_bs|apply wp_b|refine wp_sr ?_|refine wp_sx ?_|refine wp_ret' ?_|refine wp_skip' ?_|refine wp_exit' ?_)
    exact hg
theorem ev_markEdgeS (a:List (Int×Int)) (k:Int) (hl:a.length≤10000000) (hk:0≤k∧k≤100000000):Ev tb zl56 [0] [O2 a,I k] [] ⟨I (k+2 * a.length),[O2 (mrk2 k a.length)],[],[]⟩:=by
  have hlo:=mkE_loop k a.length hl hk a.length 0 a (by omega) rfl (by simp)
  rw [show k+2 * ((0:Nat):Int)=k by omega,show ((0:Nat):Int)=0 from rfl] at hlo
  refine call_of_wp zt56 rfl ?_
  repeat (first|apply wp_as|apply wp_ss|refine wr (by simp;with_reducible rfl) ?_|refine wq (by simp;with_reducible rfl) ?_|refine wt (by simpa) ?_|refine wf (by simpa) ?_|refine xt (by simpa) ?_|refine xf (by simpa) ?_|apply wp_bs|apply wp_b|refine wp_sr ?_|refine wp_sx ?_|refine wp_ret' ?_|refine wp_skip' ?_|refine wp_exit' ?_)
  refine wp_imp hlo ?_
  rintro ex st ⟨rfl,rfl⟩
  try simp only [if_true]
  repeat (first|apply wp_as|apply wp_ss|refine wr (by simp;with_reducible rfl) ?_|refine wq (by simp;with_reducible rfl) ?_|refine wt (by simpa) ?_|refine wf (by simpa) ?_|refine xt (by simpa) ?_|refine xf (by simpa) ?_|apply wp_bs|apply wp_b|refine wp_sr ?_|refine wp_sx ?_|refine wp_ret' ?_|refine wp_skip' ?_|refine wp_exit' ?_)
  simp [zi56]
theorem ev_markGraph (n:Int) (a:List (Int×Int)) (k:Int) (hl:a.length≤10000000) (hk:0≤k∧k≤100000000):Ev tb zl57 [0] [OG n a,I k] [] ⟨I (k+2 * a.length),[OG n (mrk2 k a.length)],[],[]⟩:=by
  have e1:=ev_lim (ev_markEdgeS a k hl hk)
  have hs:(eds (mrk2 k a.length)).all (·.all IV.isSc)=true:=by
    rw [List.all_eq_true];intro x hx
    obtain ⟨e,_,rfl⟩:=List.mem_map.1 hx
    rfl
  refine call_of_wp zt57 rfl ?_
  refine ⟨_,by simp [z57r0,z57r1,e1,hs];with_reducible rfl,?_⟩
  repeat (first|apply wp_as|apply wp_ss|refine wr (by simp;with_reducible rfl) ?_|refine wq (by simp;with_reducible rfl) ?_|refine wt (by simpa) ?_|refine wf (by simpa) ?_|refine xt (by simpa) ?_|refine xf (by simpa) ?_|apply wp_bs|apply wp_b|refine wp_sr ?_|refine wp_sx ?_|refine wp_ret' ?_|refine wp_skip' ?_|refine wp_exit' ?_)
  simp [zi57]
end Go.Idl
namespace Go.Idl
open Go
abbrev Str (s:ByteArray):IV:=.sc (.string s)
def strs (l:List ByteArray):List (List IV):=l.map fun s=>[Str s]
@[simp] theorem strs_len (l:List ByteArray):(strs l).length=l.length:=by simp [strs]
@[simp] theorem strs_get (l:List ByteArray) (i:Nat) (h:i < (strs l).length):(strs l)[i]=[IV.sc (.string (l[i]'(by simpa [strs] using h)))]:=by simp [strs]
@[simp] theorem strs_get? (l:List ByteArray) (i:Nat):(strs l)[i]? = l[i]?.map fun s=>[IV.sc (.string s)]:=by simp [strs]
end Go.Idl
namespace Go.Idl
open Go
def gls (n:Int) (gl:List (List (Int×Int))):List (List IV):=gl.map fun es=>[I n,O2 es]
@[simp] theorem gls_len (n:Int) (gl):(gls n gl).length=gl.length:=by simp [gls]
@[simp] theorem gls_one (n:Int) (gl) (es:List (Int×Int)):gls n gl++[[IV.sc (.int .i64 n),.own 2 (eds es)]]=gls n (gl++[es]):=by simp [gls]
@[simp] theorem gls_emp (n:Int) (gl):(gls n gl).isEmpty=gl.isEmpty:=by cases gl <;> rfl
@[simp] theorem gls_take (n:Int) (gl) (k:Nat):(gls n gl).take k=gls n (gl.take k):=by simp [gls,List.map_take]
@[simp] theorem gls_all (n:Int) (gl):((gls n gl).all fun x=>x.all IV.isData)=true:=by
  induction gl with
  | nil=>rfl
  | cons x xs ih=>simp only [gls,List.map_cons,List.all_cons] at *;rw [ih];rfl
@[simp] theorem gls_noLst (n:Int) (gl):noLstLL (gls n gl)=true:=by
  induction gl with
  | nil=>rfl
  | cons x xs ih=>simp only [gls,List.map_cons,noLstLL,noLstL,noLstV,eds_noLst] at *;rw [ih];rfl
end Go.Idl
namespace Go.Idl
open Go
abbrev GF:=List (List (Int×Int)×Bool)
def glf (n:Int) (R:GF):List (List IV):=R.map fun x=>[I n,L2 x.1 x.2]
@[simp] theorem glf_len (n:Int) (R:GF):(glf n R).length=R.length:=by simp [glf]
@[simp] theorem glf_nil (n:Int):glf n []=[]:=rfl
@[simp] theorem glf_app (n:Int) (R S:GF):glf n R++glf n S=glf n (R++S):=by simp [glf]
@[simp] theorem glf_take (n:Int) (R:GF) (k:Nat):(glf n R).take k=glf n (R.take k):=by simp [glf,List.map_take]
@[simp] theorem glf_all (n:Int) (R:GF):((glf n R).all fun x=>x.all IV.isData)=true:=by
  induction R with
  | nil=>rfl
  | cons x xs ih=>simp only [glf,List.map_cons,List.all_cons] at *;rw [ih];rfl
end Go.Idl
namespace Go.Idl
open Go
@[simp] theorem un_neg (n:Int):Op.unary .neg (.int .i64 n)=.pure (.int .i64 (IntKind.i64.wrap (-n))):=by
  rw [← Int.zero_sub];rfl
def gs (r c:List Int) (i:Nat):Int:=-((fall r).take (i+1)).sum+(c.map fun x:Int=>min x ((i:Int)+1)).sum
end Go.Idl
namespace Go.Idl
open Go
def TT (n:Nat) (t:List (List Int)):Prop:=t.length=n∧∀ r ∈ t,r.length=n∧∀ x ∈ r,0≤x∧x≤1
theorem TT.set {n:Nat} {t:List (List Int)} (h:TT n t) {a b:Nat} {v:Int} (ha:a < t.length) (hv:0≤v∧v≤1):TT n (t.set a (t[a].set b v)):=by
  refine ⟨by simpa using h.1,fun r hr=>?_⟩
  have h1:=h.2 _ (List.getElem_mem ha)
  rcases List.mem_or_eq_of_mem_set hr with hr | rfl
  · exact h.2 r hr
  · refine ⟨by simpa using h1.1,fun x hx=>?_⟩
    rcases List.mem_or_eq_of_mem_set hx with hx | rfl
    · exact h1.2 x hx
    · exact hv
end Go.Idl
namespace Go.Idl
open Go
def MM (h w:Nat) (t:List (List Int)):Prop:=t.length=h∧∀ r ∈ t,r.length=w∧∀ x ∈ r,0≤x∧x≤1
end Go.Idl
namespace Go.Idl
open Go
theorem MM.sums {h w:Nat} {t:List (List Int)} (ht:MM h w t) (hw:w≤5):∀ x ∈ t.map List.sum,0≤x∧x≤5:=by
  intro x hx
  obtain ⟨r,hr,rfl⟩:=List.mem_map.1 hx
  have h1:=ht.2 r hr
  have:=sum01 r h1.2
  omega
end Go.Idl
namespace Go.Idl
def insP (x:Nat×Nat):List (Nat×Nat)→List (Nat×Nat)
  | []=>[x]
  | y::r=>if Nat.ble y.1 x.1 then x::y::r else y::insP x r
def hh:Nat→List (Nat×Nat)→List (Nat×Nat)
  | 0,_=>[]
  | _+1,[]=>[]
  | m+1,x::r=>(r.take x.1).map (fun y:Nat×Nat=>(x.2,y.2))++hh m ((((r.take x.1).map (fun y:Nat×Nat=>(y.1 - 1,y.2))++r.drop x.1:List (Nat×Nat))).foldr insP [])
def mk (u v:Nat):Int×Int:=(min (u:Int) v,max (u:Int) v)
end Go.Idl
namespace Go.Idl
theorem has_hasM {n:Nat} {es:List (Int×Int)} (h:∀ e ∈ es,e ∈ prs n) (a b:Int):has es a b=hasM es a b:=by
  rw [Bool.eq_iff_iff,hasM_iff,has,List.any_eq_true]
  constructor
  · rintro ⟨e,he,hi⟩
    have hp:=mem_prs.1 (h e he)
    simp only [isE,Bool.or_eq_true,Bool.and_eq_true,decide_eq_true_eq] at hi
    have h2:e=(min a b,max a b):=Prod.ext (by simp only;omega) (by simp only;omega)
    rw [← h2];exact he
  · intro hm
    refine ⟨_,hm,?_⟩
    simp only [isE,Bool.or_eq_true,Bool.and_eq_true,decide_eq_true_eq]
    omega
theorem may_eq {n:Nat} {es:List (Int×Int)} (h:vGraph n es=true) (a b c d:Int):mayS es a b c d=mayI es a b c d:=by
  have hin:=(vG_iff.1 h).2.1
  rw [Bool.eq_iff_iff,mayI_iff]
  simp only [mayS,has_hasM hin,Bool.and_eq_true,decide_eq_true_eq,Bool.not_eq_true',hasM_iff,hasM_no,and_assoc]
  constructor
  · rintro ⟨h1,h2,h3,h4,m1,m2,m3,m4⟩
    have p1:=mem_prs.1 (hin _ m1)
    have p2:=mem_prs.1 (hin _ m2)
    simp only at p1 p2
    exact ⟨by omega,h1,h3,fun h=>h4 h,h2,by omega,m1,m2,m3,m4⟩
  · rintro ⟨h1,h2,h3,h4,h5,h6,m1,m2,m3,m4⟩
    exact ⟨h2,h5,h3,h4,m1,m2,m3,m4⟩
end Go.Idl
namespace Go.Idl
open Go
def nl4:List Q4→IV
  | []=>Z
  | x::r=>O4 (x::r)
theorem nl4_app (acc:List Q4) (x:Q4):nl4 (acc++[x])=O4 (acc++[x]):=by cases acc <;> rfl
abbrev mayQ (es:List (Int×Int)) (s:Q4):Bool:=mayI es s.1 s.2.1 s.2.2.1 s.2.2.2
set_option maxHeartbeats 4000000 in
theorem gs_in (n:Nat) (es:List (Int×Int)) (c:Bool) (hv:vGraph n es=true) (kb N i k:Nat) (zs:List (Int×Int)) (c2:Bool) (qs:List Q4) (hq:qs.length≤100):∀ (m j:Nat) (acc:List Q4) (B:Boxes),j+m=qs.length→acc.length+m≤4000000 →
    wp tb (.loop z173l15) { T:=[(1,.bptr 0 0 0),(3,nl4 acc),(5,.bptr 0 kb 0),(13,L2 es c),(14,I N),(15,I i),(24,L2 zs c2),(25,I zs.length),(26,I k),(48,O4 qs),(49,I qs.length),(50,I j)],loc:=[I n,L2 es c]::B,M:=[] }
      (fun ex st=>ex=.exit 4∧∃ D,st={ T:=[(1,.bptr 0 0 0),(3,nl4 (acc++(qs.drop j).filter (mayQ es))),(5,.bptr 0 kb 0),(13,L2 es c),(14,I N),(15,I i),(24,L2 zs c2),(25,I zs.length),(26,I k),(48,O4 qs),(49,I qs.length),(50,I qs.length),(51,Bo false)],loc:=[I n,L2 es c]::(B++D),M:=[] }):=by
  intro m
  induction m with
  | zero =>
    intro j acc B hj ha
    have h3:j=qs.length:=hj
    subst h3
    rw [List.drop_length,List.filter_nil,List.append_nil]
    cases acc with
    | nil =>
      simp only [nl4]
      refine wp_loop ?_
      repeat (first|apply wp_as|apply wp_ss|refine wr (by simp;with_reducible rfl) ?_|refine wq (by simp;with_reducible rfl) ?_|refine wt (by simpa) ?_|refine wf (by simpa) ?_|refine xt (by simpa) ?_|refine xf (by simpa) ?_|apply wp_bs|apply wp_b|refine wp_sr ?_|refine wp_sx ?_|refine wp_ret' ?_|refine wp_skip' ?_|refine wp_exit' ?_)
      exact ⟨rfl,[],by simp⟩
    | cons s r =>
      simp only [nl4]
      refine wp_loop ?_
      repeat (first|apply wp_as|apply wp_ss|refine wr (by simp;with_reducible rfl) ?_|refine wq (by simp;with_reducible rfl) ?_|refine wt (by simpa) ?_|refine wf (by simpa) ?_|refine xt (by simpa) ?_|refine xf (by simpa) ?_|apply wp_bs|apply wp_b|refine wp_sr ?_|refine wp_sx ?_|refine wp_ret' ?_|refine wp_skip' ?_|refine wp_exit' ?_)
      exact ⟨rfl,[],by simp⟩
  | succ m ih =>
    intro j acc B hj ha
    have hj2:j < qs.length:=by omega
    have hd:qs.drop j=qs[j]::qs.drop (j+1):=List.drop_eq_getElem_cons hj2
    obtain ⟨⟨a,b,x,y⟩,hx⟩:∃ s,s=qs[j]:=⟨_,rfl⟩
    have hx2:=hx.symm
    have w1:IntKind.i64.wrap ((j:Int)+1)=((j+1:Nat):Int):=wrapS (by omega)
    have e1:=fun cc=>ev_lim (ev_change n es cc a b x y hv)
    have hl1:acc.length+1≤274877906944:=by omega
    rw [hd,← hx,List.filter_cons]
    cases hm:mayI es a b x y with
    | false =>
      simp only [OS,hm,Bool.false_eq_true,if_false] at e1
      simp only [mayQ,hm,Bool.false_eq_true,if_false]
      have hn:=fun q=>ih (j+1) acc (B++q) (by omega) (by omega)
      have fin:∀ q:Boxes,wp tb (.loop z173l15) { T:=[(1,.bptr 0 0 0),(3,nl4 acc),(5,.bptr 0 kb 0),(13,L2 es c),(14,I N),(15,I i),(24,L2 zs c2),(25,I zs.length),(26,I k),(48,O4 qs),(49,I qs.length),(50,I (j+1:Nat))],loc:=[I n,L2 es c]::(B++q),M:=[] }
        (fun ex st=>ex=.exit 4∧∃ D,st={ T:=[(1,.bptr 0 0 0),(3,nl4 (acc++(qs.drop (j+1)).filter (mayQ es))),(5,.bptr 0 kb 0),(13,L2 es c),(14,I N),(15,I i),(24,L2 zs c2),(25,I zs.length),(26,I k),(48,O4 qs),(49,I qs.length),(50,I qs.length),(51,Bo false)],loc:=[I n,L2 es c]::(B++D),M:=[] }):=fun q=>by
        refine wp_imp (hn q) ?_
        rintro ex st ⟨rfl,D,rfl⟩
        exact ⟨rfl,q++D,by simp⟩
      cases acc with
      | nil =>
        simp only [nl4] at fin ⊢
        refine wp_loop ?_
        repeat (first|apply wp_as|apply wp_ss|refine wr (by simp [hj2,hx2,w1,e1];with_reducible rfl) ?_|refine wq (by simp [hj2,hx2,w1,e1];with_reducible rfl) ?_|refine wt (by simpa [hj2,hx2,w1,e1]) ?_|refine wf (by simpa [hj2,hx2,w1,e1]) ?_|refine xt (by simpa [hj2,hx2,w1,e1]) ?_|refine xf (by simpa [hj2,hx2,w1,e1]) ?_|apply wp_bs|apply wp_b|refine wp_sr ?_|refine wp_sx ?_|refine wp_ret' ?_|refine wp_skip' ?_|refine wp_exit' ?_)
        exact fin _
      | cons s r =>
        simp only [nl4] at fin ⊢
        refine wp_loop ?_
        repeat (first|apply wp_as|apply wp_ss|refine wr (by simp [hj2,hx2,w1,e1];with_reducible rfl) ?_|refine wq (by simp [hj2,hx2,w1,e1];with_reducible rfl) ?_|refine wt (by simpa [hj2,hx2,w1,e1]) ?_|refine wf (by simpa [hj2,hx2,w1,e1]) ?_|refine xt (by simpa [hj2,hx2,w1,e1]) ?_|refine xf (by simpa [hj2,hx2,w1,e1]) ?_|apply wp_bs|apply wp_b|refine wp_sr ?_|refine wp_sx ?_|refine wp_ret' ?_|refine wp_skip' ?_|refine wp_exit' ?_)
        exact fin _
    | true =>
      simp only [OS,hm,if_true] at e1
      simp only [mayQ,hm,if_true]
      generalize sw es a b x y=R at *
      have hn:=fun q=>ih (j+1) (acc++[(a,b,x,y)]) (B++q) (by omega) (by simp;omega)
      have fin:∀ q:Boxes,wp tb (.loop z173l15) { T:=[(1,.bptr 0 0 0),(3,O4 (acc++[(a,b,x,y)])),(5,.bptr 0 kb 0),(13,L2 es c),(14,I N),(15,I i),(24,L2 zs c2),(25,I zs.length),(26,I k),(48,O4 qs),(49,I qs.length),(50,I (j+1:Nat))],loc:=[I n,L2 es c]::(B++q),M:=[] }
        (fun ex st=>ex=.exit 4∧∃ D,st={ T:=[(1,.bptr 0 0 0),(3,nl4 (acc++(a,b,x,y)::(qs.drop (j+1)).filter (mayQ es))),(5,.bptr 0 kb 0),(13,L2 es c),(14,I N),(15,I i),(24,L2 zs c2),(25,I zs.length),(26,I k),(48,O4 qs),(49,I qs.length),(50,I qs.length),(51,Bo false)],loc:=[I n,L2 es c]::(B++D),M:=[] }):=fun q=>by
        have hn:=hn q
        rw [nl4_app] at hn
        refine wp_imp hn ?_
        rintro ex st ⟨rfl,D,rfl⟩
        exact ⟨rfl,q++D,by simp⟩
      cases acc with
      | nil =>
        simp only [nl4] at fin ⊢
        refine wp_loop ?_
        repeat (first|apply wp_as|apply wp_ss|refine wr (by simp [hj2,hx2,w1,e1];with_reducible rfl) ?_|refine wq (by simp [hj2,hx2,w1,e1];with_reducible rfl) ?_|refine wt (by simpa [hj2,hx2,w1,e1]) ?_|refine wf (by simpa [hj2,hx2,w1,e1]) ?_|refine xt (by simpa [hj2,hx2,w1,e1]) ?_|refine xf (by simpa [hj2,hx2,w1,e1]) ?_|apply wp_bs|apply wp_b|refine wp_sr ?_|refine wp_sx ?_|refine wp_ret' ?_|refine wp_skip' ?_|refine wp_exit' ?_)
        exact fin _
      | cons s r =>
        have hT2:List.take (s::r).length (s::r)=s::r:=List.take_of_length_le (Nat.le_refl _)
        simp only [List.length_cons] at hl1 hT2
        generalize hacc:s::r=acc at *
        have hlen:r.length+1=acc.length:=by rw [← hacc];rfl
        rw [hlen] at hl1 hT2
        have hnl:nl4 acc=O4 acc:=by rw [← hacc];rfl
        rw [hnl] at *
        refine wp_loop ?_
        repeat (first|apply wp_as|apply wp_ss|refine wr (by simp [hj2,hx2,w1,e1,hl1,hT2];with_reducible rfl) ?_|refine wq (by simp [hj2,hx2,w1,e1,hl1,hT2];with_reducible rfl) ?_|refine wt (by simpa [hj2,hx2,w1,e1,hl1,hT2]) ?_|refine wf (by simpa [hj2,hx2,w1,e1,hl1,hT2]) ?_|refine xt (by simpa [hj2,hx2,w1,e1,hl1,hT2]) ?_|refine xf (by simpa [hj2,hx2,w1,e1,hl1,hT2]) ?_|apply wp_bs|apply wp_b|refine wp_sr ?_|refine wp_sx ?_|refine wp_ret' ?_|refine wp_skip' ?_|refine wp_exit' ?_)
        exact fin _
set_option maxHeartbeats 4000000 in
theorem gs_mid (n:Nat) (es:List (Int×Int)) (c:Bool) (hv:vGraph n es=true) (kb N i:Nat) (e:Int×Int) (zs:List (Int×Int)) (c2:Bool) (hz:zs.length≤100):∀ (m k:Nat) (acc:List Q4) (B:Boxes),k+m=zs.length→acc.length+2 * m≤3000000→B[kb]? = some [I e.1,I e.2] →
    wp tb (.loop z173l17) { T:=[(1,.bptr 0 0 0),(3,nl4 acc),(5,.bptr 0 (kb+1) 0),(13,L2 es c),(14,I N),(15,I i),(24,L2 zs c2),(25,I zs.length),(26,I k)],loc:=[I n,L2 es c]::B,M:=[] }
      (fun ex st=>ex=.exit 2∧∃ D,st={ T:=[(1,.bptr 0 0 0),(3,nl4 (acc++(zs.drop k).flatMap fun f=>[(e.1,e.2,f.1,f.2),(e.1,e.2,f.2,f.1)].filter (mayQ es))),(5,.bptr 0 (kb+1) 0),(13,L2 es c),(14,I N),(15,I i),(24,L2 zs c2),(25,I zs.length),(26,I zs.length),(27,Bo false)],loc:=[I n,L2 es c]::(B++D),M:=[] }):=by
  intro m
  induction m with
  | zero =>
    intro k acc B hk ha hB
    have h3:k=zs.length:=hk
    subst h3
    rw [List.drop_length,List.flatMap_nil,List.append_nil]
    cases acc with
    | nil =>
      simp only [nl4]
      refine wp_loop ?_
      repeat (first|apply wp_as|apply wp_ss|refine wr (by simp;with_reducible rfl) ?_|refine wq (by simp;with_reducible rfl) ?_|refine wt (by simpa) ?_|refine wf (by simpa) ?_|refine xt (by simpa) ?_|refine xf (by simpa) ?_|apply wp_bs|apply wp_b|refine wp_sr ?_|refine wp_sx ?_|refine wp_ret' ?_|refine wp_skip' ?_|refine wp_exit' ?_)
      exact ⟨rfl,[],by simp⟩
    | cons s r =>
      simp only [nl4]
      refine wp_loop ?_
      repeat (first|apply wp_as|apply wp_ss|refine wr (by simp;with_reducible rfl) ?_|refine wq (by simp;with_reducible rfl) ?_|refine wt (by simpa) ?_|refine wf (by simpa) ?_|refine xt (by simpa) ?_|refine xf (by simpa) ?_|apply wp_bs|apply wp_b|refine wp_sr ?_|refine wp_sx ?_|refine wp_ret' ?_|refine wp_skip' ?_|refine wp_exit' ?_)
      exact ⟨rfl,[],by simp⟩
  | succ m ih =>
    intro k acc B hk ha hB
    have hk2:k < zs.length:=by omega
    have hd:zs.drop k=zs[k]::zs.drop (k+1):=List.drop_eq_getElem_cons hk2
    obtain ⟨⟨x,y⟩,hx⟩:∃ s,s=zs[k]:=⟨_,rfl⟩
    have hx2:=hx.symm
    obtain ⟨a,b⟩:=e
    have w1:IntKind.i64.wrap ((k:Int)+1)=((k+1:Nat):Int):=wrapS (by omega)
    have hkB:kb < B.length:=(List.getElem?_eq_some_iff.1 hB).1
    have hB2:∀ q,(B++q)[kb]? = some [I a,I b]:=fun q=>by rw [List.getElem?_append_left hkB,hB]
    have hF:([(a,b,x,y),(a,b,y,x)].filter (mayQ es)).length≤2:=List.length_filter_le _ _
    have inner:=fun q=>gs_in n es c hv (kb+1) N i k zs c2 [(a,b,x,y),(a,b,y,x)] (by simp) 2 0 acc (B++q) rfl (by omega)
    rw [hd,← hx,List.flatMap_cons]
    simp only [List.drop_zero] at inner
    have hn:=fun D=>ih (k+1) (acc++[(a,b,x,y),(a,b,y,x)].filter (mayQ es)) (B++D) (by omega) (by rw [List.length_append];omega) (hB2 D)
    generalize [(a,b,x,y),(a,b,y,x)].filter (mayQ es)=F at *
    have fin:∀ D:Boxes,wp tb (.loop z173l17) { T:=[(1,.bptr 0 0 0),(3,nl4 (acc++F)),(5,.bptr 0 (kb+1) 0),(13,L2 es c),(14,I N),(15,I i),(24,L2 zs c2),(25,I zs.length),(26,I (k+1:Nat))],loc:=[I n,L2 es c]::(B++D),M:=[] }
      (fun ex st=>ex=.exit 2∧∃ D,st={ T:=[(1,.bptr 0 0 0),(3,nl4 (acc++(F++(zs.drop (k+1)).flatMap fun f=>[(a,b,f.1,f.2),(a,b,f.2,f.1)].filter (mayQ es)))),(5,.bptr 0 (kb+1) 0),(13,L2 es c),(14,I N),(15,I i),(24,L2 zs c2),(25,I zs.length),(26,I zs.length),(27,Bo false)],loc:=[I n,L2 es c]::(B++D),M:=[] }):=fun D=>by
      refine wp_imp (hn D) ?_
      rintro ex st ⟨rfl,D',rfl⟩
      exact ⟨rfl,D++D',by simp⟩
    simp only [O4,sws,List.map_cons,List.map_nil,List.length_cons,List.length_nil,Nat.zero_add,Nat.reduceAdd,show ((2:Nat):Int)=2 from rfl,show ((0:Nat):Int)=0 from rfl] at inner
    have back:∀ G:List Q4,nl4 G=Z∧G=[] ∨ nl4 G=O4 G:=fun G=>by cases G <;> simp [nl4]
    rcases back acc with ⟨hb,-⟩ | hb
    · rw [hb] at inner ⊢
      refine wp_loop ?_
      repeat (first|apply wp_as|apply wp_ss|refine wr (by simp [hk2,hx2,hB,hB2];with_reducible rfl) ?_|refine wq (by simp [hk2,hx2,hB,hB2];with_reducible rfl) ?_|refine wt (by simpa [hk2,hx2,hB,hB2]) ?_|refine wf (by simpa [hk2,hx2,hB,hB2]) ?_|refine xt (by simpa [hk2,hx2,hB,hB2]) ?_|refine xf (by simpa [hk2,hx2,hB,hB2]) ?_|apply wp_bs|apply wp_b|refine wp_sr ?_|refine wp_sx ?_|refine wp_ret' ?_|refine wp_skip' ?_|refine wp_exit' ?_)
      refine wp_imp (inner _) ?_
      rintro ex st ⟨rfl,D,rfl⟩
      simp only [if_true]
      rw [List.append_assoc]
      rcases back (acc++F) with ⟨h,-⟩ | h
      · rw [h] at fin ⊢
        repeat (first|apply wp_as|apply wp_ss|refine wr (by simp [w1];with_reducible rfl) ?_|refine wq (by simp [w1];with_reducible rfl) ?_|refine wt (by simpa [w1]) ?_|refine wf (by simpa [w1]) ?_|refine xt (by simpa [w1]) ?_|refine xf (by simpa [w1]) ?_|apply wp_bs|apply wp_b|refine wp_sr ?_|refine wp_sx ?_|refine wp_ret' ?_|refine wp_skip' ?_|refine wp_exit' ?_)
        exact fin _
      · rw [h] at fin ⊢
        repeat (first|apply wp_as|apply wp_ss|refine wr (by simp [w1];with_reducible rfl) ?_|refine wq (by simp [w1];with_reducible rfl) ?_|refine wt (by simpa [w1]) ?_|refine wf (by simpa [w1]) ?_|refine xt (by simpa [w1]) ?_|refine xf (by simpa [w1]) ?_|apply wp_bs|apply wp_b|refine wp_sr ?_|refine wp_sx ?_|refine wp_ret' ?_|refine wp_skip' ?_|refine wp_exit' ?_)
        exact fin _
    · rw [hb] at inner ⊢
      refine wp_loop ?_
      repeat (first|apply wp_as|apply wp_ss|refine wr (by simp [hk2,hx2,hB,hB2];with_reducible rfl) ?_|refine wq (by simp [hk2,hx2,hB,hB2];with_reducible rfl) ?_|refine wt (by simpa [hk2,hx2,hB,hB2]) ?_|refine wf (by simpa [hk2,hx2,hB,hB2]) ?_|refine xt (by simpa [hk2,hx2,hB,hB2]) ?_|refine xf (by simpa [hk2,hx2,hB,hB2]) ?_|apply wp_bs|apply wp_b|refine wp_sr ?_|refine wp_sx ?_|refine wp_ret' ?_|refine wp_skip' ?_|refine wp_exit' ?_)
      refine wp_imp (inner _) ?_
      rintro ex st ⟨rfl,D,rfl⟩
      simp only [if_true]
      rw [List.append_assoc]
      rcases back (acc++F) with ⟨h,-⟩ | h
      · rw [h] at fin ⊢
        repeat (first|apply wp_as|apply wp_ss|refine wr (by simp [w1];with_reducible rfl) ?_|refine wq (by simp [w1];with_reducible rfl) ?_|refine wt (by simpa [w1]) ?_|refine wf (by simpa [w1]) ?_|refine xt (by simpa [w1]) ?_|refine xf (by simpa [w1]) ?_|apply wp_bs|apply wp_b|refine wp_sr ?_|refine wp_sx ?_|refine wp_ret' ?_|refine wp_skip' ?_|refine wp_exit' ?_)
        exact fin _
      · rw [h] at fin ⊢
        repeat (first|apply wp_as|apply wp_ss|refine wr (by simp [w1];with_reducible rfl) ?_|refine wq (by simp [w1];with_reducible rfl) ?_|refine wt (by simpa [w1]) ?_|refine wf (by simpa [w1]) ?_|refine xt (by simpa [w1]) ?_|refine xf (by simpa [w1]) ?_|apply wp_bs|apply wp_b|refine wp_sr ?_|refine wp_sx ?_|refine wp_ret' ?_|refine wp_skip' ?_|refine wp_exit' ?_)
        exact fin _
theorem row2_mayQ {n:Nat} {es:List (Int×Int)} (hv:vGraph n es=true) (e f:Int×Int):[(e.1,e.2,f.1,f.2),(e.1,e.2,f.2,f.1)].filter (mayQ es)=row2 es e f:=by
  simp only [row2,may_eq hv,List.filter_cons,List.filter_nil,mayQ]
  split <;> split <;> simp_all
theorem flat_row {n:Nat} {es:List (Int×Int)} (hv:vGraph n es=true) (e:Int×Int) (zs:List (Int×Int)):(zs.flatMap fun f=>[(e.1,e.2,f.1,f.2),(e.1,e.2,f.2,f.1)].filter (mayQ es))=zs.flatMap (row2 es e):=by
  congr 1
  funext f
  exact row2_mayQ hv e f
set_option maxHeartbeats 4000000 in
theorem gs_out (n:Nat) (es:List (Int×Int)) (c:Bool) (hv:vGraph n es=true):∀ (m i:Nat) (acc:List Q4) (B:Boxes),i+m=es.length→acc.length+200 * m≤2000000 →
    wp tb (.loop z173l19) { T:=[(1,.bptr 0 0 0),(3,nl4 acc),(13,L2 es c),(14,I es.length),(15,I i)],loc:=[I n,L2 es c]::B,M:=[] }
      (fun ex st=>ex=.exit 0∧∃ D,st={ T:=[(1,.bptr 0 0 0),(3,nl4 (acc++swl es (es.drop i))),(13,L2 es c),(14,I es.length),(15,I es.length),(16,Bo false)],loc:=[I n,L2 es c]::D,M:=[] }):=by
  have hn7:=(vG_iff.1 hv).2.2
  have h21:=vG21 hn7 hv
  have back:∀ G:List Q4,nl4 G=Z∧G=[] ∨ nl4 G=O4 G:=fun G=>by cases G <;> simp [nl4]
  intro m
  induction m with
  | zero =>
    intro i acc B hi ha
    have h3:i=es.length:=hi
    subst h3
    rw [List.drop_length,swl,List.append_nil]
    rcases back acc with ⟨h,-⟩ | h
    · rw [h]
      refine wp_loop ?_
      repeat (first|apply wp_as|apply wp_ss|refine wr (by simp;with_reducible rfl) ?_|refine wq (by simp;with_reducible rfl) ?_|refine wt (by simpa) ?_|refine wf (by simpa) ?_|refine xt (by simpa) ?_|refine xf (by simpa) ?_|apply wp_bs|apply wp_b|refine wp_sr ?_|refine wp_sx ?_|refine wp_ret' ?_|refine wp_skip' ?_|refine wp_exit' ?_)
      exact ⟨rfl,_,rfl⟩
    · rw [h]
      refine wp_loop ?_
      repeat (first|apply wp_as|apply wp_ss|refine wr (by simp;with_reducible rfl) ?_|refine wq (by simp;with_reducible rfl) ?_|refine wt (by simpa) ?_|refine wf (by simpa) ?_|refine xt (by simpa) ?_|refine xf (by simpa) ?_|apply wp_bs|apply wp_b|refine wp_sr ?_|refine wp_sx ?_|refine wp_ret' ?_|refine wp_skip' ?_|refine wp_exit' ?_)
      exact ⟨rfl,_,rfl⟩
  | succ m ih =>
    intro i acc B hi ha
    have hi2:i < es.length:=by omega
    have hd:es.drop i=es[i]::es.drop (i+1):=List.drop_eq_getElem_cons hi2
    obtain ⟨⟨a,b⟩,hx⟩:∃ s,s=es[i]:=⟨_,rfl⟩
    have hx2:=hx.symm
    have w1:IntKind.i64.wrap ((i:Int)+1)=((i+1:Nat):Int):=wrapS (by omega)
    have hzl:(es.drop (i+1)).length=es.length - (i+1):=List.length_drop
    have hrl:=row2s_len es (a,b) (es.drop (i+1))
    have mid:=fun c2=>gs_mid n es c hv (B.length) es.length i (a,b) (es.drop (i+1)) c2 (by omega) (es.drop (i+1)).length 0 acc (B++[[I a,I b]]) (by omega) (by omega) (by simp)
    have fr:=flat_row hv (a,b) (es.drop (i+1))
    simp only at fr
    simp only [List.drop_zero,fr,show ((0:Nat):Int)=0 from rfl] at mid
    rw [hd,← hx,swl]
    have hn:=fun D=>ih (i+1) (acc++(es.drop (i+1)).flatMap (row2 es (a,b))) D (by omega) (by rw [List.length_append];omega)
    generalize (es.drop (i+1)).flatMap (row2 es (a,b))=F at *
    simp only [List.append_assoc] at hn
    rw [hzl] at mid
    have hi3:i+1≤es.length:=by omega
    have hcast:((es.length - (i+1):Nat):Int)=(es.length:Int) - ((i:Int)+1):=by omega
    have htk:(es.drop (i+1)).take (es.length - (i+1))=es.drop (i+1):=List.take_of_length_le (by omega)
    rcases back acc with ⟨hb,-⟩ | hb
    · rw [hb] at mid ⊢
      refine wp_loop ?_
      repeat (first|apply wp_as|apply wp_ss|refine wr (by simp [hi2,hx2,w1,hi3,htk];with_reducible rfl) ?_|refine wq (by simp [hi2,hx2,w1,hi3,htk];with_reducible rfl) ?_|refine wt (by simpa [hi2,hx2,w1,hi3,htk]) ?_|refine wf (by simpa [hi2,hx2,w1,hi3,htk]) ?_|refine xt (by simpa [hi2,hx2,w1,hi3,htk]) ?_|refine xf (by simpa [hi2,hx2,w1,hi3,htk]) ?_|apply wp_bs|apply wp_b|refine wp_sr ?_|refine wp_sx ?_|refine wp_ret' ?_|refine wp_skip' ?_|refine wp_exit' ?_)
      refine wp_imp (mid _) ?_
      rintro ex st ⟨rfl,D,rfl⟩
      simp only [if_true]
      rcases back (acc++F) with ⟨h,-⟩ | h
      · rw [h] at hn ⊢
        repeat (first|apply wp_as|apply wp_ss|refine wr (by simp [w1];with_reducible rfl) ?_|refine wq (by simp [w1];with_reducible rfl) ?_|refine wt (by simpa [w1]) ?_|refine wf (by simpa [w1]) ?_|refine xt (by simpa [w1]) ?_|refine xf (by simpa [w1]) ?_|apply wp_bs|apply wp_b|refine wp_sr ?_|refine wp_sx ?_|refine wp_ret' ?_|refine wp_skip' ?_|refine wp_exit' ?_)
        exact hn _
      · rw [h] at hn ⊢
        repeat (first|apply wp_as|apply wp_ss|refine wr (by simp [w1];with_reducible rfl) ?_|refine wq (by simp [w1];with_reducible rfl) ?_|refine wt (by simpa [w1]) ?_|refine wf (by simpa [w1]) ?_|refine xt (by simpa [w1]) ?_|refine xf (by simpa [w1]) ?_|apply wp_bs|apply wp_b|refine wp_sr ?_|refine wp_sx ?_|refine wp_ret' ?_|refine wp_skip' ?_|refine wp_exit' ?_)
        exact hn _
    · rw [hb] at mid ⊢
      refine wp_loop ?_
      repeat (first|apply wp_as|apply wp_ss|refine wr (by simp [hi2,hx2,w1,hi3,htk];with_reducible rfl) ?_|refine wq (by simp [hi2,hx2,w1,hi3,htk];with_reducible rfl) ?_|refine wt (by simpa [hi2,hx2,w1,hi3,htk]) ?_|refine wf (by simpa [hi2,hx2,w1,hi3,htk]) ?_|refine xt (by simpa [hi2,hx2,w1,hi3,htk]) ?_|refine xf (by simpa [hi2,hx2,w1,hi3,htk]) ?_|apply wp_bs|apply wp_b|refine wp_sr ?_|refine wp_sx ?_|refine wp_ret' ?_|refine wp_skip' ?_|refine wp_exit' ?_)
      refine wp_imp (mid _) ?_
      rintro ex st ⟨rfl,D,rfl⟩
      simp only [if_true]
      rcases back (acc++F) with ⟨h,-⟩ | h
      · rw [h] at hn ⊢
        repeat (first|apply wp_as|apply wp_ss|refine wr (by simp [w1];with_reducible rfl) ?_|refine wq (by simp [w1];with_reducible rfl) ?_|refine wt (by simpa [w1]) ?_|refine wf (by simpa [w1]) ?_|refine xt (by simpa [w1]) ?_|refine xf (by simpa [w1]) ?_|apply wp_bs|apply wp_b|refine wp_sr ?_|refine wp_sx ?_|refine wp_ret' ?_|refine wp_skip' ?_|refine wp_exit' ?_)
        exact hn _
      · rw [h] at hn ⊢
        repeat (first|apply wp_as|apply wp_ss|refine wr (by simp [w1];with_reducible rfl) ?_|refine wq (by simp [w1];with_reducible rfl) ?_|refine wt (by simpa [w1]) ?_|refine wf (by simpa [w1]) ?_|refine xt (by simpa [w1]) ?_|refine xf (by simpa [w1]) ?_|apply wp_bs|apply wp_b|refine wp_sr ?_|refine wp_sx ?_|refine wp_ret' ?_|refine wp_skip' ?_|refine wp_exit' ?_)
        exact hn _
theorem ev_Clip4 (xs:List Q4):Ev tb zl260 [] [nl4 xs] [] ⟨nl4 xs,[],[],[]⟩:=by
  cases xs with
  | nil =>
    simp only [nl4]
    refine call_of_wp zt260 rfl ?_
    repeat (first|apply wp_as|apply wp_ss|refine wr (by simp;with_reducible rfl) ?_|refine wq (by simp;with_reducible rfl) ?_|refine wt (by simpa) ?_|refine wf (by simpa) ?_|refine xt (by simpa) ?_|refine xf (by simpa) ?_|apply wp_bs|apply wp_b|refine wp_sr ?_|refine wp_sx ?_|refine wp_ret' ?_|refine wp_skip' ?_|refine wp_exit' ?_)
    simp [zi260]
  | cons s r =>
    simp only [nl4]
    refine call_of_wp zt260 rfl ?_
    repeat (first|apply wp_as|apply wp_ss|refine wr (by simp;with_reducible rfl) ?_|refine wq (by simp;with_reducible rfl) ?_|refine wt (by simpa) ?_|refine wf (by simpa) ?_|refine xt (by simpa) ?_|refine xf (by simpa) ?_|apply wp_bs|apply wp_b|refine wp_sr ?_|refine wp_sx ?_|refine wp_ret' ?_|refine wp_skip' ?_|refine wp_exit' ?_)
    simp [zi260]
theorem ev_Graph_switches (n:Nat) (es:List (Int×Int)) (c:Bool) (hv:vGraph n es=true) :
    Ev tb zl173 [] [Gr n es c] [] ⟨nl4 (swl es es),[],[],[]⟩:=by
  have hn7:=(vG_iff.1 hv).2.2
  have h21:=vG21 hn7 hv
  have loop:=gs_out n es c hv es.length 0 [] [] (by omega) (by simp;omega)
  rw [show ((0:Nat):Int)=0 from rfl,List.drop_zero,List.nil_append,show nl4 []=Z from rfl] at loop
  have e1:=ev_lim (ev_Clip4 (swl es es))
  generalize swl es es=G at *
  cases G with
  | nil =>
    simp only [nl4] at loop e1 ⊢
    refine call_of_wp zt173 rfl ?_
    repeat (first|apply wp_as|apply wp_ss|refine wr (by simp;with_reducible rfl) ?_|refine wq (by simp;with_reducible rfl) ?_|refine wt (by simpa) ?_|refine wf (by simpa) ?_|refine xt (by simpa) ?_|refine xf (by simpa) ?_|apply wp_bs|apply wp_b|refine wp_sr ?_|refine wp_sx ?_|refine wp_ret' ?_|refine wp_skip' ?_|refine wp_exit' ?_)
    refine wp_imp loop ?_
    rintro ex st ⟨rfl,D,rfl⟩
    simp only [if_true]
    repeat (first|apply wp_as|apply wp_ss|refine wr (by simp [e1];with_reducible rfl) ?_|refine wq (by simp [e1];with_reducible rfl) ?_|refine wt (by simpa [e1]) ?_|refine wf (by simpa [e1]) ?_|refine xt (by simpa [e1]) ?_|refine xf (by simpa [e1]) ?_|apply wp_bs|apply wp_b|refine wp_sr ?_|refine wp_sx ?_|refine wp_ret' ?_|refine wp_skip' ?_|refine wp_exit' ?_)
    simp [zi173]
  | cons s r =>
    simp only [nl4] at loop e1 ⊢
    refine call_of_wp zt173 rfl ?_
    repeat (first|apply wp_as|apply wp_ss|refine wr (by simp;with_reducible rfl) ?_|refine wq (by simp;with_reducible rfl) ?_|refine wt (by simpa) ?_|refine wf (by simpa) ?_|refine xt (by simpa) ?_|refine xf (by simpa) ?_|apply wp_bs|apply wp_b|refine wp_sr ?_|refine wp_sx ?_|refine wp_ret' ?_|refine wp_skip' ?_|refine wp_exit' ?_)
    refine wp_imp loop ?_
    rintro ex st ⟨rfl,D,rfl⟩
    simp only [if_true]
    repeat (first|apply wp_as|apply wp_ss|refine wr (by simp [e1];with_reducible rfl) ?_|refine wq (by simp [e1];with_reducible rfl) ?_|refine wt (by simpa [e1]) ?_|refine wf (by simpa [e1]) ?_|refine xt (by simpa [e1]) ?_|refine xf (by simpa [e1]) ?_|apply wp_bs|apply wp_b|refine wp_sr ?_|refine wp_sx ?_|refine wp_ret' ?_|refine wp_skip' ?_|refine wp_exit' ?_)
    simp [zi173]
theorem ev_SwitchesOf (n:Nat) (es:List (Int×Int)) (c:Bool) (hv:vGraph n es=true) :
    Ev tb zl199 [] [Gr n es c] [] ⟨nl4 (swl es es),[],[],[]⟩:=by
  have hn7:=(vG_iff.1 hv).2.2
  have h21:=vG21 hn7 hv
  have hf:Fit es:=fun e he=>by have:=mem_prs.1 ((vG_iff.1 hv).2.1 e he);omega
  have v1:=fun c=>ev_lim (ev_ValidGraph n es c hf (by omega))
  rw [hv] at v1
  have e1:=fun c=>ev_lim (ev_Graph_switches n es c hv)
  generalize swl es es=G at *
  cases G with
  | nil =>
    simp only [nl4] at e1 ⊢
    refine call_of_wp zt199 rfl ?_
    repeat (first|apply wp_as|apply wp_ss|refine wr (by simp [v1,e1];with_reducible rfl) ?_|refine wq (by simp [v1,e1];with_reducible rfl) ?_|refine wt (by simpa [v1,e1]) ?_|refine wf (by simpa [v1,e1]) ?_|refine xt (by simpa [v1,e1]) ?_|refine xf (by simpa [v1,e1]) ?_|apply wp_bs|apply wp_b|refine wp_sr ?_|refine wp_sx ?_|refine wp_ret' ?_|refine wp_skip' ?_|refine wp_exit' ?_)
    simp [zi199]
  | cons s r =>
    simp only [nl4] at e1 ⊢
    refine call_of_wp zt199 rfl ?_
    repeat (first|apply wp_as|apply wp_ss|refine wr (by simp [v1,e1];with_reducible rfl) ?_|refine wq (by simp [v1,e1];with_reducible rfl) ?_|refine wt (by simpa [v1,e1]) ?_|refine wf (by simpa [v1,e1]) ?_|refine xt (by simpa [v1,e1]) ?_|refine xf (by simpa [v1,e1]) ?_|apply wp_bs|apply wp_b|refine wp_sr ?_|refine wp_sx ?_|refine wp_ret' ?_|refine wp_skip' ?_|refine wp_exit' ?_)
    simp [zi199]
theorem ev_SwitchesOf_no (n:Int) (es:List (Int×Int)) (c:Bool) (hf:Fit es) (hl:es.length≤2000000) (hv:vGraph n es=false) :
    Ev tb zl199 [] [Gr n es c] [] ⟨Z,[],[],[]⟩:=by
  have v1:=fun c=>ev_lim (ev_ValidGraph n es c hf (by omega))
  rw [hv] at v1
  refine call_of_wp zt199 rfl ?_
  repeat (first|apply wp_as|apply wp_ss|refine wr (by simp [v1];with_reducible rfl) ?_|refine wq (by simp [v1];with_reducible rfl) ?_|refine wt (by simpa [v1]) ?_|refine wf (by simpa [v1]) ?_|refine xt (by simpa [v1]) ?_|refine xf (by simpa [v1]) ?_|apply wp_bs|apply wp_b|refine wp_sr ?_|refine wp_sx ?_|refine wp_ret' ?_|refine wp_skip' ?_|refine wp_exit' ?_)
  simp [zi199]
theorem ev_spec_SwitchesOf (n:Int) (es:List (Int×Int)) (c:Bool) (hl:es.length≤1000) (hv:vGraph n es=true) :
    Ev tb zl329 [] [Gr n es c] [] ⟨O4 (swl es es),[],[],[]⟩:=by
  have v1:=fun c=>ev_lim (ev_validGraph n es c (by omega))
  rw [hv] at v1
  have e1:=fun c=>ev_lim (ev_spec_switches n es c hl)
  refine call_of_wp zt329 rfl ?_
  repeat (first|apply wp_as|apply wp_ss|refine wr (by simp [v1,e1];with_reducible rfl) ?_|refine wq (by simp [v1,e1];with_reducible rfl) ?_|refine wt (by simpa [v1,e1]) ?_|refine wf (by simpa [v1,e1]) ?_|refine xt (by simpa [v1,e1]) ?_|refine xf (by simpa [v1,e1]) ?_|apply wp_bs|apply wp_b|refine wp_sr ?_|refine wp_sx ?_|refine wp_ret' ?_|refine wp_skip' ?_|refine wp_exit' ?_)
  simp [zi329]
theorem ev_spec_SwitchesOf_no (n:Int) (es:List (Int×Int)) (c:Bool) (hl:es.length≤2000000) (hv:vGraph n es=false) :
    Ev tb zl329 [] [Gr n es c] [] ⟨Z,[],[],[]⟩:=by
  have v1:=fun c=>ev_lim (ev_validGraph n es c (by omega))
  rw [hv] at v1
  refine call_of_wp zt329 rfl ?_
  repeat (first|apply wp_as|apply wp_ss|refine wr (by simp [v1];with_reducible rfl) ?_|refine wq (by simp [v1];with_reducible rfl) ?_|refine wt (by simpa [v1]) ?_|refine wf (by simpa [v1]) ?_|refine xt (by simpa [v1]) ?_|refine xf (by simpa [v1]) ?_|apply wp_bs|apply wp_b|refine wp_sr ?_|refine wp_sx ?_|refine wp_ret' ?_|refine wp_skip' ?_|refine wp_exit' ?_)
  simp [zi329]
end Go.Idl
namespace Go.Idl
open Go
theorem ev_szGraph_ok (n:Int) (es:List (Int×Int)) (c:Bool) (l:Int) (h:(es.length:Int)≤l) (hl:l≤2000000):Ev tb zl61 [] [Gr n es c,I l] [] ⟨I (l - es.length),[],[],[]⟩:=by
  have w1:IntKind.i64.wrap (l - (es.length:Int))=l - es.length:=wrap64 (by omega) (by omega)
  have h0:¬ (l - (es.length:Int) < 0):=by omega
  have e1:∀ c,limF tb zl60 [] [L2 es c,I l] []=some ⟨I (l - es.length),[],[],[]⟩:=fun c=>ev_lim (by
    refine call_of_wp zt60 rfl ?_
    repeat (first|apply wp_as|apply wp_ss|refine wr (by simp [w1,h0];with_reducible rfl) ?_|refine wq (by simp [w1,h0];with_reducible rfl) ?_|refine wt (by simpa [w1,h0]) ?_|refine wf (by simpa [w1,h0]) ?_|refine xt (by simpa [w1,h0]) ?_|refine xf (by simpa [w1,h0]) ?_|apply wp_bs|apply wp_b|refine wp_sr ?_|refine wp_sx ?_|refine wp_ret' ?_|refine wp_skip' ?_|refine wp_exit' ?_)
    simp [zi60])
  refine call_of_wp zt61 rfl ?_
  repeat (first|apply wp_as|apply wp_ss|refine wr (by simp [e1,h0];with_reducible rfl) ?_|refine wq (by simp [e1,h0];with_reducible rfl) ?_|refine wt (by simpa [e1,h0]) ?_|refine wf (by simpa [e1,h0]) ?_|refine xt (by simpa [e1,h0]) ?_|refine xf (by simpa [e1,h0]) ?_|apply wp_bs|apply wp_b|refine wp_sr ?_|refine wp_sx ?_|refine wp_ret' ?_|refine wp_skip' ?_|refine wp_exit' ?_)
  simp [zi61]
theorem ev_szGraph_no (n:Int) (es:List (Int×Int)) (c:Bool) (l:Int) (h:l < (es.length:Int)) (hl:0≤l) (hb:es.length < 9223372036854775808):Ev tb zl61 [] [Gr n es c,I l] [] ⟨I (-1),[],[],[]⟩:=by
  have w1:IntKind.i64.wrap (l - (es.length:Int))=l - es.length:=wrap64 (by omega) (by omega)
  have h0:l - (es.length:Int) < 0:=by omega
  have e1:∀ c,limF tb zl60 [] [L2 es c,I l] []=some ⟨I (-1),[],[],[]⟩:=fun c=>ev_lim (by
    refine call_of_wp zt60 rfl ?_
    repeat (first|apply wp_as|apply wp_ss|refine wr (by simp [w1,h0];with_reducible rfl) ?_|refine wq (by simp [w1,h0];with_reducible rfl) ?_|refine wt (by simpa [w1,h0]) ?_|refine wf (by simpa [w1,h0]) ?_|refine xt (by simpa [w1,h0]) ?_|refine xf (by simpa [w1,h0]) ?_|apply wp_bs|apply wp_b|refine wp_sr ?_|refine wp_sx ?_|refine wp_ret' ?_|refine wp_skip' ?_|refine wp_exit' ?_)
    simp [zi60])
  refine call_of_wp zt61 rfl ?_
  repeat (first|apply wp_as|apply wp_ss|refine wr (by simp [e1];with_reducible rfl) ?_|refine wq (by simp [e1];with_reducible rfl) ?_|refine wt (by simpa [e1]) ?_|refine wf (by simpa [e1]) ?_|refine xt (by simpa [e1]) ?_|refine xf (by simpa [e1]) ?_|apply wp_bs|apply wp_b|refine wp_sr ?_|refine wp_sx ?_|refine wp_ret' ?_|refine wp_skip' ?_|refine wp_exit' ?_)
  simp [zi61]
@[simp] theorem sws_rep (n:Nat):List.replicate n [IV.sc (.int .i64 0),IV.sc (.int .i64 0),IV.sc (.int .i64 0),IV.sc (.int .i64 0)]=sws (List.replicate n (0,0,0,0)):=by simp [sws]
@[simp] theorem sws_set (xs:List Q4) (i:Nat) (a b c d:Int):(sws xs).set i [IV.sc (.int .i64 a),IV.sc (.int .i64 b),IV.sc (.int .i64 c),IV.sc (.int .i64 d)]=sws (xs.set i (a,b,c,d)):=by
  simp [sws,List.map_set]
theorem ev_eqSwitch (a b p q:Int):Ev tb zl235 [] [.agg [I a,I b,I p,I q],.agg [I a,I b,I p,I q]] [] ⟨Bo true,[],[],[]⟩:=by
  refine call_of_wp zt235 rfl ?_
  repeat (first|apply wp_as|apply wp_ss|refine wr (by simp;with_reducible rfl) ?_|refine wq (by simp;with_reducible rfl) ?_|refine wt (by simpa) ?_|refine wf (by simpa) ?_|refine xt (by simpa) ?_|refine xf (by simpa) ?_|apply wp_bs|apply wp_b|refine wp_sr ?_|refine wp_sx ?_|refine wp_ret' ?_|refine wp_skip' ?_|refine wp_exit' ?_)
  simp [zi235]
theorem eqS_loop (a:List Q4) (c d:Bool) (hl:a.length≤2000000):∀ (m i:Nat),i+m=a.length →
    wp tb (.loop z236l8) { T:=[(0,L4 a c),(1,L4 a d),(5,I i)],loc:=[],M:=[] }
      (fun ex st=>ex=.exit 0∧st={ T:=[(0,L4 a c),(1,L4 a d),(5,I a.length),(14,Bo false)],loc:=[],M:=[] }):=by
  intro m
  induction m with
  | zero =>
    intro i hi
    have h3:i=a.length:=hi
    subst h3
    refine wp_loop ?_
    repeat (first|apply wp_as|apply wp_ss|refine wr (by simp;with_reducible rfl) ?_|refine wq (by simp;with_reducible rfl) ?_|refine wt (by simpa) ?_|refine wf (by simpa) ?_|refine xt (by simpa) ?_|refine xf (by simpa) ?_|apply wp_bs|apply wp_b|refine wp_sr ?_|refine wp_sx ?_|refine wp_ret' ?_|refine wp_skip' ?_|refine wp_exit' ?_)
    exact ⟨rfl,rfl⟩
  | succ m ih =>
    intro i hi
    have hi2:i < a.length:=by omega
    have w2:IntKind.i64.wrap ((i:Int)+1)=((i+1:Nat):Int):=wrapS (by omega)
    have hg:=ih (i+1) (by omega)
    obtain ⟨⟨p,q,r,s⟩,hx⟩:∃ x,x=a[i]:=⟨_,rfl⟩
    have hx:=hx.symm
    have e1:=ev_lim (ev_eqSwitch p q r s)
    refine wp_loop ?_
    repeat (first|apply wp_as|apply wp_ss|refine wr (by simp [hi2,w2,hx,e1];with_reducible rfl) ?_|refine wq (by simp [hi2,w2,hx,e1];with_reducible rfl) ?_|refine wt (by simpa [hi2,w2,hx,e1]) ?_|refine wf (by simpa [hi2,w2,hx,e1]) ?_|refine xt (by simpa [hi2,w2,hx,e1]) ?_|refine xf (by simpa [hi2,w2,hx,e1]) ?_|apply wp_bs|apply wp_b|refine wp_sr ?_|refine wp_sx ?_|refine wp_ret' ?_|refine wp_skip' ?_|refine wp_exit' ?_)
    exact hg
theorem ev_eqSwitchS (a:List Q4) (c d:Bool) (hl:a.length≤2000000):Ev tb zl236 [] [L4 a c,L4 a d] [] ⟨Bo true,[],[],[]⟩:=by
  have hlo:=eqS_loop a c d hl a.length 0 (by omega)
  rw [show ((0:Nat):Int)=0 from rfl] at hlo
  refine call_of_wp zt236 rfl ?_
  repeat (first|apply wp_as|apply wp_ss|refine wr (by simp;with_reducible rfl) ?_|refine wq (by simp;with_reducible rfl) ?_|refine wt (by simpa) ?_|refine wf (by simpa) ?_|refine xt (by simpa) ?_|refine xf (by simpa) ?_|apply wp_bs|apply wp_b|refine wp_sr ?_|refine wp_sx ?_|refine wp_ret' ?_|refine wp_skip' ?_|refine wp_exit' ?_)
  refine wp_imp hlo ?_
  rintro ex st ⟨rfl,rfl⟩
  try simp only [if_true]
  repeat (first|apply wp_as|apply wp_ss|refine wr (by simp;with_reducible rfl) ?_|refine wq (by simp;with_reducible rfl) ?_|refine wt (by simpa) ?_|refine wf (by simpa) ?_|refine xt (by simpa) ?_|refine xf (by simpa) ?_|apply wp_bs|apply wp_b|refine wp_sr ?_|refine wp_sx ?_|refine wp_ret' ?_|refine wp_skip' ?_|refine wp_exit' ?_)
  simp [zi236]
theorem ev_eqSwitchS_Z (x y:IV) (hx:x=Z ∨ ∃ c,x=L4 [] c) (hy:y=Z ∨ ∃ c,y=L4 [] c):Ev tb zl236 [] [x,y] [] ⟨Bo true,[],[],[]⟩:=by
  rcases hx with rfl | ⟨c,rfl⟩ <;> rcases hy with rfl | ⟨d,rfl⟩ <;>
  · refine call_of_wp zt236 rfl ?_
    repeat (first|apply wp_as|apply wp_ss|refine wr (by simp;with_reducible rfl) ?_|refine wq (by simp;with_reducible rfl) ?_|refine wt (by simpa) ?_|refine wf (by simpa) ?_|refine xt (by simpa) ?_|refine xf (by simpa) ?_|apply wp_bs|apply wp_b|refine wp_sr ?_|refine wp_sx ?_|refine wp_ret' ?_|refine wp_skip' ?_|refine wp_exit' ?_)
    refine wp_loop ?_
    repeat (first|apply wp_as|apply wp_ss|refine wr (by simp;with_reducible rfl) ?_|refine wq (by simp;with_reducible rfl) ?_|refine wt (by simpa) ?_|refine wf (by simpa) ?_|refine xt (by simpa) ?_|refine xf (by simpa) ?_|apply wp_bs|apply wp_b|refine wp_sr ?_|refine wp_sx ?_|refine wp_ret' ?_|refine wp_skip' ?_|refine wp_exit' ?_)
    simp [zi236]
def mrk4 (k:Int) (n:Nat):List Q4:=(List.range n).map fun i:Nat=>(k+4 * (i:Int),k+4 * (i:Int)+1,k+4 * (i:Int)+1+1,k+4 * (i:Int)+1+1+1)
theorem mrk4_len (k:Int) (n:Nat):(mrk4 k n).length=n:=by simp [mrk4]
theorem mrk4_get (k:Int) (n i:Nat) (h:i < (mrk4 k n).length):(mrk4 k n)[i]=(k+4 * (i:Int),k+4 * (i:Int)+1,k+4 * (i:Int)+1+1,k+4 * (i:Int)+1+1+1):=by simp [mrk4]
theorem mrk4_take (k:Int) (n:Nat):(mrk4 k n).take n=mrk4 k n:=List.take_of_length_le (by rw [mrk4_len];exact Nat.le_refl n)
set_option maxHeartbeats 2000000 in
theorem mkS_loop (k:Int) (n:Nat) (hn:n≤10000000) (hk:0≤k∧k≤100000000):∀ (m i:Nat) (A:List Q4),i+m=n→A.length=n→A.take i=(mrk4 k n).take i →
    wp tb (.loop z244l12) { T:=[(0,O4 A),(1,I (k+4 * i)),(5,I i)],loc:=[],M:=[] }
      (fun ex st=>ex=.exit 0∧st={ T:=[(0,O4 (mrk4 k n)),(1,I (k+4 * n)),(5,I n),(9,Bo false)],loc:=[],M:=[] }):=by
  intro m
  induction m with
  | zero =>
    intro i A hi hA ht
    have h3:i=n:=hi
    subst h3
    rw [List.take_of_length_le (by omega),List.take_of_length_le (by rw [mrk4_len];omega)] at ht
    subst ht
    refine wp_loop ?_
    repeat (first|apply wp_as|apply wp_ss|refine wr (by simp [mrk4_len];with_reducible rfl) ?_|refine wq (by simp [mrk4_len];with_reducible rfl) ?_|refine wt (by simpa [mrk4_len]) ?_|refine wf (by simpa [mrk4_len]) ?_|refine xt (by simpa [mrk4_len]) ?_|refine xf (by simpa [mrk4_len]) ?_|apply wp_bs|apply wp_b|refine wp_sr ?_|refine wp_sx ?_|refine wp_ret' ?_|refine wp_skip' ?_|refine wp_exit' ?_)
    exact ⟨rfl,rfl⟩
  | succ m ih =>
    intro i A hi hA ht
    have hi2:i < A.length:=by omega
    have w2:IntKind.i64.wrap ((i:Int)+1)=((i+1:Nat):Int):=wrapS (by omega)
    have w3:IntKind.i64.wrap (k+4 * (i:Int)+1)=k+4 * (i:Int)+1:=by rw [wrap64 (by omega) (by omega)]
    have w4:IntKind.i64.wrap (k+4 * (i:Int)+1+1)=k+4 * (i:Int)+1+1:=by rw [wrap64 (by omega) (by omega)]
    have w5:IntKind.i64.wrap (k+4 * (i:Int)+1+1+1)=k+4 * (i:Int)+1+1+1:=by rw [wrap64 (by omega) (by omega)]
    have w6:IntKind.i64.wrap (k+4 * (i:Int)+1+1+1+1)=k+4 * ((i+1:Nat):Int):=by rw [wrap64 (by omega) (by omega)];omega
    have hg:=ih (i+1) (A.set i (k+4 * (i:Int),k+4 * (i:Int)+1,k+4 * (i:Int)+1+1,k+4 * (i:Int)+1+1+1)) (by omega) (by simpa using hA) (by
      rw [List.take_succ_eq_append_getElem (by simpa using hi2),List.take_succ_eq_append_getElem (by rw [mrk4_len];omega),List.take_set_of_le (Nat.le_refl _),ht,mrk4_get];simp)
    obtain ⟨⟨p,q,r,s⟩,hx⟩:∃ x,x=A[i]:=⟨_,rfl⟩
    have hx:=hx.symm
    refine wp_loop ?_
    repeat (first|apply wp_as|apply wp_ss|refine wr (by simp [hi2,w2,w3,w4,w5,w6,hx];with_reducible rfl) ?_|refine wq (by simp [hi2,w2,w3,w4,w5,w6,hx];with_reducible rfl) ?_|refine wt (by simpa [hi2,w2,w3,w4,w5,w6,hx]) ?_|refine wf (by simpa [hi2,w2,w3,w4,w5,w6,hx]) ?_|refine xt (by simpa [hi2,w2,w3,w4,w5,w6,hx]) ?_|refine xf (by simpa [hi2,w2,w3,w4,w5,w6,hx]) ?_|apply wp_bs|apply wp_b|refine wp_sr ?_|refine wp_sx ?_|refine wp_ret' ?_|refine wp_skip' ?_|refine wp_exit' ?_)
    exact hg
theorem ev_markSwitchS (a:List Q4) (k:Int) (hl:a.length≤10000000) (hk:0≤k∧k≤100000000):Ev tb zl244 [0] [O4 a,I k] [] ⟨I (k+4 * a.length),[O4 (mrk4 k a.length)],[],[]⟩:=by
  have hlo:=mkS_loop k a.length hl hk a.length 0 a (by omega) rfl (by simp)
  rw [show k+4 * ((0:Nat):Int)=k by omega,show ((0:Nat):Int)=0 from rfl] at hlo
  refine call_of_wp zt244 rfl ?_
  repeat (first|apply wp_as|apply wp_ss|refine wr (by simp;with_reducible rfl) ?_|refine wq (by simp;with_reducible rfl) ?_|refine wt (by simpa) ?_|refine wf (by simpa) ?_|refine xt (by simpa) ?_|refine xf (by simpa) ?_|apply wp_bs|apply wp_b|refine wp_sr ?_|refine wp_sx ?_|refine wp_ret' ?_|refine wp_skip' ?_|refine wp_exit' ?_)
  refine wp_imp hlo ?_
  rintro ex st ⟨rfl,rfl⟩
  try simp only [if_true]
  repeat (first|apply wp_as|apply wp_ss|refine wr (by simp;with_reducible rfl) ?_|refine wq (by simp;with_reducible rfl) ?_|refine wt (by simpa) ?_|refine wf (by simpa) ?_|refine xt (by simpa) ?_|refine xf (by simpa) ?_|apply wp_bs|apply wp_b|refine wp_sr ?_|refine wp_sx ?_|refine wp_ret' ?_|refine wp_skip' ?_|refine wp_exit' ?_)
  simp [zi244]
theorem ev_markSwitchS_Z (k:Int):Ev tb zl244 [] [Z,I k] [] ⟨I k,[],[],[]⟩:=by
  refine call_of_wp zt244 rfl ?_
  repeat (first|apply wp_as|apply wp_ss|refine wr (by simp;with_reducible rfl) ?_|refine wq (by simp;with_reducible rfl) ?_|refine wt (by simpa) ?_|refine wf (by simpa) ?_|refine xt (by simpa) ?_|refine xf (by simpa) ?_|apply wp_bs|apply wp_b|refine wp_sr ?_|refine wp_sx ?_|refine wp_ret' ?_|refine wp_skip' ?_|refine wp_exit' ?_)
  refine wp_loop ?_
  repeat (first|apply wp_as|apply wp_ss|refine wr (by simp;with_reducible rfl) ?_|refine wq (by simp;with_reducible rfl) ?_|refine wt (by simpa) ?_|refine wf (by simpa) ?_|refine xt (by simpa) ?_|refine xf (by simpa) ?_|apply wp_bs|apply wp_b|refine wp_sr ?_|refine wp_sx ?_|refine wp_ret' ?_|refine wp_skip' ?_|refine wp_exit' ?_)
  simp [zi244]
set_option maxHeartbeats 2000000 in
theorem hdS_loop (k:Int) (n:Nat) (c:Bool) (hn:n≤10000000) (hk:0≤k∧k≤100000000):∀ (m i:Nat),i+m=n →
    wp tb (.loop z242l16) { T:=[(0,L4 (mrk4 k n) c),(1,I (k+4 * i)),(5,I i)],loc:=[],M:=[] }
      (fun ex st=>ex=.exit 0∧st={ T:=[(0,L4 (mrk4 k n) c),(1,I (k+4 * n)),(5,I n),(9,Bo false)],loc:=[],M:=[] }):=by
  intro m
  induction m with
  | zero =>
    intro i hi
    have h3:i=n:=hi
    subst h3
    refine wp_loop ?_
    repeat (first|apply wp_as|apply wp_ss|refine wr (by simp [mrk4_len];with_reducible rfl) ?_|refine wq (by simp [mrk4_len];with_reducible rfl) ?_|refine wt (by simpa [mrk4_len]) ?_|refine wf (by simpa [mrk4_len]) ?_|refine xt (by simpa [mrk4_len]) ?_|refine xf (by simpa [mrk4_len]) ?_|apply wp_bs|apply wp_b|refine wp_sr ?_|refine wp_sx ?_|refine wp_ret' ?_|refine wp_skip' ?_|refine wp_exit' ?_)
    exact ⟨rfl,rfl⟩
  | succ m ih =>
    intro i hi
    have hi2:i < n:=by omega
    have w2:IntKind.i64.wrap ((i:Int)+1)=((i+1:Nat):Int):=wrapS (by omega)
    have w3:IntKind.i64.wrap (k+4 * (i:Int)+1)=k+4 * (i:Int)+1:=by rw [wrap64 (by omega) (by omega)]
    have w4:IntKind.i64.wrap (k+4 * (i:Int)+1+1)=k+4 * (i:Int)+1+1:=by rw [wrap64 (by omega) (by omega)]
    have w5:IntKind.i64.wrap (k+4 * (i:Int)+1+1+1)=k+4 * (i:Int)+1+1+1:=by rw [wrap64 (by omega) (by omega)]
    have w6:IntKind.i64.wrap (k+4 * (i:Int)+1+1+1+1)=k+4 * ((i+1:Nat):Int):=by rw [wrap64 (by omega) (by omega)];omega
    have hg:=ih (i+1) (by omega)
    refine wp_loop ?_
    repeat (first|apply wp_as|apply wp_ss|refine wr (by simp [mrk4_len,hi2,w2,w3,w4,w5,w6,mrk4_get];with_reducible rfl) ?_|refine wq (by simp [mrk4_len,hi2,w2,w3,w4,w5,w6,mrk4_get];with_reducible rfl) ?_|refine wt (by simpa [mrk4_len,hi2,w2,w3,w4,w5,w6,mrk4_get]) ?_|refine wf (by simpa [mrk4_len,hi2,w2,w3,w4,w5,w6,mrk4_get]) ?_|refine xt (by simpa [mrk4_len,hi2,w2,w3,w4,w5,w6,mrk4_get]) ?_|refine xf (by simpa [mrk4_len,hi2,w2,w3,w4,w5,w6,mrk4_get]) ?_|apply wp_bs|apply wp_b|refine wp_sr ?_|refine wp_sx ?_|refine wp_ret' ?_|refine wp_skip' ?_|refine wp_exit' ?_)
    exact hg
theorem ev_heldSwitchS (k:Int) (n:Nat) (c:Bool) (hl:n≤10000000) (hk:0≤k∧k≤100000000):Ev tb zl242 [] [L4 (mrk4 k n) c,I k] [] ⟨I (k+4 * n),[],[],[]⟩:=by
  have hlo:=hdS_loop k n c hl hk n 0 (by omega)
  rw [show k+4 * ((0:Nat):Int)=k by omega,show ((0:Nat):Int)=0 from rfl] at hlo
  refine call_of_wp zt242 rfl ?_
  repeat (first|apply wp_as|apply wp_ss|refine wr (by simp;with_reducible rfl) ?_|refine wq (by simp;with_reducible rfl) ?_|refine wt (by simpa) ?_|refine wf (by simpa) ?_|refine xt (by simpa) ?_|refine xf (by simpa) ?_|apply wp_bs|apply wp_b|refine wp_sr ?_|refine wp_sx ?_|refine wp_ret' ?_|refine wp_skip' ?_|refine wp_exit' ?_)
  refine wp_imp hlo ?_
  rintro ex st ⟨rfl,rfl⟩
  try simp only [if_true]
  repeat (first|apply wp_as|apply wp_ss|refine wr (by simp;with_reducible rfl) ?_|refine wq (by simp;with_reducible rfl) ?_|refine wt (by simpa) ?_|refine wf (by simpa) ?_|refine xt (by simpa) ?_|refine xf (by simpa) ?_|apply wp_bs|apply wp_b|refine wp_sr ?_|refine wp_sx ?_|refine wp_ret' ?_|refine wp_skip' ?_|refine wp_exit' ?_)
  simp [zi242]
theorem ev_heldSwitchS_Z (k:Int):Ev tb zl242 [] [Z,I k] [] ⟨I k,[],[],[]⟩:=by
  refine call_of_wp zt242 rfl ?_
  repeat (first|apply wp_as|apply wp_ss|refine wr (by simp;with_reducible rfl) ?_|refine wq (by simp;with_reducible rfl) ?_|refine wt (by simpa) ?_|refine wf (by simpa) ?_|refine xt (by simpa) ?_|refine xf (by simpa) ?_|apply wp_bs|apply wp_b|refine wp_sr ?_|refine wp_sx ?_|refine wp_ret' ?_|refine wp_skip' ?_|refine wp_exit' ?_)
  refine wp_loop ?_
  repeat (first|apply wp_as|apply wp_ss|refine wr (by simp;with_reducible rfl) ?_|refine wq (by simp;with_reducible rfl) ?_|refine wt (by simpa) ?_|refine wf (by simpa) ?_|refine xt (by simpa) ?_|refine xf (by simpa) ?_|apply wp_bs|apply wp_b|refine wp_sr ?_|refine wp_sx ?_|refine wp_ret' ?_|refine wp_skip' ?_|refine wp_exit' ?_)
  simp [zi242]
theorem mrk2_sc (k:Int) (n:Nat):(eds (mrk2 k n)).all (·.all IV.isSc)=true:=by
  rw [List.all_eq_true];intro x hx
  obtain ⟨e,_,rfl⟩:=List.mem_map.1 hx
  rfl
theorem mrk4_sc (k:Int) (n:Nat):(sws (mrk4 k n)).all (·.all IV.isSc)=true:=by
  rw [List.all_eq_true];intro x hx
  obtain ⟨e,_,rfl⟩:=List.mem_map.1 hx
  rfl
end Go.Idl
namespace Go.Idl
open Go
set_option maxHeartbeats 8000000 in
theorem ev_FnExactSwitchesOf (n:Int) (es:List (Int×Int)) (c:Bool) (hf:Fit es) (hb:es.length < 9223372036854775808) :
    Ev tb zl429 [] [Gr n es c] [] ⟨Bo true,[],[],[]⟩:=by
  by_cases hc:(1048576:Int) < es.length
  · have s1:=fun c=>ev_lim (ev_szGraph_no n es c 1048576 hc (by omega) hb)
    refine call_of_wp zt429 rfl ?_
    repeat (first|apply wp_as|apply wp_ss|refine wr (by simp [s1];with_reducible rfl) ?_|refine wq (by simp [s1];with_reducible rfl) ?_|refine wt (by simpa [s1]) ?_|refine wf (by simpa [s1]) ?_|refine xt (by simpa [s1]) ?_|refine xf (by simpa [s1]) ?_|apply wp_bs|apply wp_b|refine wp_sr ?_|refine wp_sx ?_|refine wp_ret' ?_|refine wp_skip' ?_|refine wp_exit' ?_)
    simp [zi429]
  have s1:=fun c=>ev_lim (ev_szGraph_ok n es c 1048576 (by omega) (by omega))
  have h8:¬ (1048576 - (es.length:Int) < 0):=by omega
  have t1:=fun c=>ev_lim (ev_toGraph n es c (by omega))
  have q1:=fun c d=>ev_lim (ev_eqGraph n es c d (by omega))
  have m1:=ev_lim (ev_markGraph n es 1 (by omega) (by omega))
  have h0:¬ (1+2 * (es.length:Int) < 0):=by omega
  have hs1:=mrk2_sc 1 es.length
  have m2:=ev_lim (ev_markSwitchS_Z 1)
  have m3:=ev_lim (ev_heldSwitchS_Z 1)
  cases hv:vGraph n es with
  | false =>
    have e2:=fun c=>ev_lim (ev_SwitchesOf_no n es c hf (by omega) hv)
    have e3:=fun c=>ev_lim (ev_spec_SwitchesOf_no n es c (by omega) hv)
    have ez:=ev_lim (ev_eqSwitchS_Z Z Z (.inl rfl) (.inl rfl))
    refine call_of_wp zt429 rfl ?_
    repeat (first|apply wp_as|apply wp_ss|refine wr (by simp [s1,h8,t1,q1,m1,h0,hs1,e2,e3,ez,m2,m3];with_reducible rfl) ?_|refine wq (by simp [s1,h8,t1,q1,m1,h0,hs1,e2,e3,ez,m2,m3];with_reducible rfl) ?_|refine wt (by simpa [s1,h8,t1,q1,m1,h0,hs1,e2,e3,ez,m2,m3]) ?_|refine wf (by simpa [s1,h8,t1,q1,m1,h0,hs1,e2,e3,ez,m2,m3]) ?_|refine xt (by simpa [s1,h8,t1,q1,m1,h0,hs1,e2,e3,ez,m2,m3]) ?_|refine xf (by simpa [s1,h8,t1,q1,m1,h0,hs1,e2,e3,ez,m2,m3]) ?_|apply wp_bs|apply wp_b|refine wp_sr ?_|refine wp_sx ?_|refine wp_ret' ?_|refine wp_skip' ?_|refine wp_exit' ?_)
    refine wp_ra (by simp [t1,q1];with_reducible rfl) (by simp;with_reducible rfl) ?_ ?_
    · intro p hp
      simp only [List.mem_cons,List.not_mem_nil,or_false] at hp
      subst hp
      exact ⟨_,by simp [t1,q1];with_reducible rfl,by simp⟩
    repeat (first|apply wp_as|apply wp_ss|refine wr (by simp [s1,h8,t1,q1,m1,h0,hs1,e2,e3,ez,m2,m3];with_reducible rfl) ?_|refine wq (by simp [s1,h8,t1,q1,m1,h0,hs1,e2,e3,ez,m2,m3];with_reducible rfl) ?_|refine wt (by simpa [s1,h8,t1,q1,m1,h0,hs1,e2,e3,ez,m2,m3]) ?_|refine wf (by simpa [s1,h8,t1,q1,m1,h0,hs1,e2,e3,ez,m2,m3]) ?_|refine xt (by simpa [s1,h8,t1,q1,m1,h0,hs1,e2,e3,ez,m2,m3]) ?_|refine xf (by simpa [s1,h8,t1,q1,m1,h0,hs1,e2,e3,ez,m2,m3]) ?_|apply wp_bs|apply wp_b|refine wp_sr ?_|refine wp_sx ?_|refine wp_ret' ?_|refine wp_skip' ?_|refine wp_exit' ?_)
    simp [zi429]
  | true =>
  have hn:=vG_n hv
  obtain ⟨n,rfl⟩:=Int.eq_ofNat_of_zero_le hn.1
  have hn7:=(vG_iff.1 hv).2.2
  have h21:=vG21 hn7 hv
  have e2:=fun c=>ev_lim (ev_SwitchesOf n es c hv)
  have e3:=fun c=>ev_lim (ev_spec_SwitchesOf n es c (by omega) hv)
  have hGl:=swl_len es es (by omega)
  generalize swl es es=G at *
  cases G with
  | nil =>
    have ez:=fun c=>ev_lim (ev_eqSwitchS_Z Z (L4 [] c) (.inl rfl) (.inr ⟨c,rfl⟩))
    simp only [nl4,O4,L4,sws_nil] at e2 e3 ez
    refine call_of_wp zt429 rfl ?_
    repeat (first|apply wp_as|apply wp_ss|refine wr (by simp [s1,h8,t1,q1,m1,h0,hs1,e2,e3,ez,m2,m3];with_reducible rfl) ?_|refine wq (by simp [s1,h8,t1,q1,m1,h0,hs1,e2,e3,ez,m2,m3];with_reducible rfl) ?_|refine wt (by simpa [s1,h8,t1,q1,m1,h0,hs1,e2,e3,ez,m2,m3]) ?_|refine wf (by simpa [s1,h8,t1,q1,m1,h0,hs1,e2,e3,ez,m2,m3]) ?_|refine xt (by simpa [s1,h8,t1,q1,m1,h0,hs1,e2,e3,ez,m2,m3]) ?_|refine xf (by simpa [s1,h8,t1,q1,m1,h0,hs1,e2,e3,ez,m2,m3]) ?_|apply wp_bs|apply wp_b|refine wp_sr ?_|refine wp_sx ?_|refine wp_ret' ?_|refine wp_skip' ?_|refine wp_exit' ?_)
    refine wp_ra (by simp [t1,q1];with_reducible rfl) (by simp;with_reducible rfl) ?_ ?_
    · intro p hp
      simp only [List.mem_cons,List.not_mem_nil,or_false] at hp
      subst hp
      exact ⟨_,by simp [t1,q1];with_reducible rfl,by simp⟩
    repeat (first|apply wp_as|apply wp_ss|refine wr (by simp [s1,h8,t1,q1,m1,h0,hs1,e2,e3,ez,m2,m3];with_reducible rfl) ?_|refine wq (by simp [s1,h8,t1,q1,m1,h0,hs1,e2,e3,ez,m2,m3];with_reducible rfl) ?_|refine wt (by simpa [s1,h8,t1,q1,m1,h0,hs1,e2,e3,ez,m2,m3]) ?_|refine wf (by simpa [s1,h8,t1,q1,m1,h0,hs1,e2,e3,ez,m2,m3]) ?_|refine xt (by simpa [s1,h8,t1,q1,m1,h0,hs1,e2,e3,ez,m2,m3]) ?_|refine xf (by simpa [s1,h8,t1,q1,m1,h0,hs1,e2,e3,ez,m2,m3]) ?_|apply wp_bs|apply wp_b|refine wp_sr ?_|refine wp_sx ?_|refine wp_ret' ?_|refine wp_skip' ?_|refine wp_exit' ?_)
    simp [zi429]
  | cons s r =>
    simp only [nl4] at e2
    generalize s::r=G at *
    have ez:=fun c d=>ev_lim (ev_eqSwitchS G c d (by omega))
    have m4:=ev_lim (ev_markSwitchS G 1 (by omega) (by omega))
    have m5:=fun c=>ev_lim (ev_heldSwitchS 1 G.length c (by omega) (by omega))
    have h9:¬ (1+4 * (G.length:Int) < 0):=by omega
    have hs4:=mrk4_sc 1 G.length
    refine call_of_wp zt429 rfl ?_
    repeat (first|apply wp_as|apply wp_ss|refine wr (by simp [s1,h8,t1,q1,m1,h0,hs1,e2,e3,ez,m4,m5,h9,hs4];with_reducible rfl) ?_|refine wq (by simp [s1,h8,t1,q1,m1,h0,hs1,e2,e3,ez,m4,m5,h9,hs4];with_reducible rfl) ?_|refine wt (by simpa [s1,h8,t1,q1,m1,h0,hs1,e2,e3,ez,m4,m5,h9,hs4]) ?_|refine wf (by simpa [s1,h8,t1,q1,m1,h0,hs1,e2,e3,ez,m4,m5,h9,hs4]) ?_|refine xt (by simpa [s1,h8,t1,q1,m1,h0,hs1,e2,e3,ez,m4,m5,h9,hs4]) ?_|refine xf (by simpa [s1,h8,t1,q1,m1,h0,hs1,e2,e3,ez,m4,m5,h9,hs4]) ?_|apply wp_bs|apply wp_b|refine wp_sr ?_|refine wp_sx ?_|refine wp_ret' ?_|refine wp_skip' ?_|refine wp_exit' ?_)
    refine wp_ra (by simp [t1,q1];with_reducible rfl) (by simp;with_reducible rfl) ?_ ?_
    · intro p hp
      simp only [List.mem_cons,List.not_mem_nil,or_false] at hp
      subst hp
      exact ⟨_,by simp [t1,q1];with_reducible rfl,by simp⟩
    repeat (first|apply wp_as|apply wp_ss|refine wr (by simp [s1,h8,t1,q1,m1,h0,hs1,e2,e3,ez,m4,m5,h9,hs4,mrk4_len,mrk4_take];with_reducible rfl) ?_|refine wq (by simp [s1,h8,t1,q1,m1,h0,hs1,e2,e3,ez,m4,m5,h9,hs4,mrk4_len,mrk4_take];with_reducible rfl) ?_|refine wt (by simpa [s1,h8,t1,q1,m1,h0,hs1,e2,e3,ez,m4,m5,h9,hs4,mrk4_len,mrk4_take]) ?_|refine wf (by simpa [s1,h8,t1,q1,m1,h0,hs1,e2,e3,ez,m4,m5,h9,hs4,mrk4_len,mrk4_take]) ?_|refine xt (by simpa [s1,h8,t1,q1,m1,h0,hs1,e2,e3,ez,m4,m5,h9,hs4,mrk4_len,mrk4_take]) ?_|refine xf (by simpa [s1,h8,t1,q1,m1,h0,hs1,e2,e3,ez,m4,m5,h9,hs4,mrk4_len,mrk4_take]) ?_|apply wp_bs|apply wp_b|refine wp_sr ?_|refine wp_sx ?_|refine wp_ret' ?_|refine wp_skip' ?_|refine wp_exit' ?_)
    simp [zi429]
end Go.Idl
