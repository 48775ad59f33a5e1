/- Part 6 of a proof by an ideal interpreter of the code: its definitions and lemmas. Conditions: none. -/
import Derived.KernelRfl
import Derived.Test.YtmhcaeaomjegmaaA5
set_option linter.all false
set_option linter.unusedVariables false
set_option linter.unusedSimpArgs false
namespace Go.Idl
abbrev spK (d:List Int):List Int:=topD d (idxB d.length (-1)) (durf (fall d))
theorem spK_len (d:List Int):(spK d).length=durf (fall d):=by
  have h1:=durf_le (fall d)
  rw [fall_len] at h1
  have h2:(srtC (gtD d) [] (idxB d.length (-1))).length=d.length:=by rw [topD_len d _ 0,idxB_all];simp
  rw [spK,topD,List.length_take,h2];omega
theorem spK_mem {d:List Int} {x:Int} (h:x ∈ spK d):0≤x∧x < d.length:=by
  have h1:=(srtC_perm (gtD d) (idxB d.length (-1)) []).mem_iff.1 (List.mem_of_mem_take h)
  rw [List.nil_append] at h1
  exact mem_idxB.1 h1
theorem spK_nd (d:List Int):(spK d).Nodup:=by
  have h1:(srtC (gtD d) [] (idxB d.length (-1))).Nodup:=by
    have:=(srtC_perm (gtD d) (idxB d.length (-1)) []).nodup_iff
    rw [this,List.nil_append]
    exact (idxB_pw d.length).imp fun h=>by omega
  exact h1.sublist (List.take_sublist _ _)
def spP (es:List (Int×Int)) (K:List Int) (e:Int×Int):Bool:=decide (e.1 ∈ K) != decide (e.2 ∈ K) || hasM es e.1 e.2 == decide (e.1 ∈ K)
def spOK (n:Nat) (es:List (Int×Int)):Bool:=(prs n).all (spP es (spK (degs n es)))
end Go.Idl
namespace Go.Idl
open Go
theorem ev_durfee (d:List Int) (c:Bool) (hl:d.length≤7):Ev tb zl349 [] [L d c] [] ⟨I (durf (fall d)),[],[],[]⟩:=by
  have e1:=ev_lim (ev_spec_falling d c (by omega))
  have hfl:=fall_len d
  generalize fall d=s at *
  have loop:∀ (m i k:Nat),i+m=s.length→k≤i→wp tb (.loop z349l8) { T:=[(3,O s),(4,I k),(5,I i)],loc:=[],M:=[] }
      (fun ex st=>ex=.exit 0∧st={ T:=[(3,O s),(4,I (durfA (s.drop i) i k)),(5,I s.length),(11,Bo false)],loc:=[],M:=[] }):=by
    intro m
    induction m with
    | zero =>
      intro i k hi hk
      obtain ⟨h1,h2⟩:=drop_end hi
      have h3:i=s.length:=hi
      subst h3
      refine wp_loop ?_
      repeat (first|apply wp_as|apply wp_ss|refine wr (by simp;with_reducible rfl) ?_|refine wq (by simp;with_reducible rfl) ?_|refine wt (by simpa) ?_|refine wf (by simpa) ?_|refine xt (by simpa) ?_|refine xf (by simpa) ?_|apply wp_bs|apply wp_b|refine wp_sr ?_|refine wp_sx ?_|refine wp_ret' ?_|refine wp_skip' ?_|refine wp_exit' ?_)
      rw [h2];exact ⟨rfl,rfl⟩
    | succ m ih =>
      intro i k hi hk
      obtain ⟨hi2,h2,h3⟩:=drop_get hi
      have w2:IntKind.i64.wrap ((i:Int)+1)=((i+1:Nat):Int):=wrapS (by omega)
      rw [h2,durfA]
      by_cases hq:(i:Int)≤s[i]
      · rw [if_pos hq]
        refine wp_loop ?_
        repeat (first|apply wp_as|apply wp_ss|refine wr (by simp [hi2,hq,w2];with_reducible rfl) ?_|refine wq (by simp [hi2,hq,w2];with_reducible rfl) ?_|refine wt (by simpa [hi2,hq,w2]) ?_|refine wf (by simpa [hi2,hq,w2]) ?_|refine xt (by simpa [hi2,hq,w2]) ?_|refine xf (by simpa [hi2,hq,w2]) ?_|apply wp_bs|apply wp_b|refine wp_sr ?_|refine wp_sx ?_|refine wp_ret' ?_|refine wp_skip' ?_|refine wp_exit' ?_)
        exact ih (i+1) (i+1) (by omega) (by omega)
      · rw [if_neg hq]
        refine wp_loop ?_
        repeat (first|apply wp_as|apply wp_ss|refine wr (by simp [hi2,hq,w2];with_reducible rfl) ?_|refine wq (by simp [hi2,hq,w2];with_reducible rfl) ?_|refine wt (by simpa [hi2,hq,w2]) ?_|refine wf (by simpa [hi2,hq,w2]) ?_|refine xt (by simpa [hi2,hq,w2]) ?_|refine xf (by simpa [hi2,hq,w2]) ?_|apply wp_bs|apply wp_b|refine wp_sr ?_|refine wp_sx ?_|refine wp_ret' ?_|refine wp_skip' ?_|refine wp_exit' ?_)
        exact ih (i+1) k (by omega) (by omega)
  refine call_of_wp zt349 rfl ?_
  repeat (first|apply wp_as|apply wp_ss|refine wr (by simp [e1];with_reducible rfl) ?_|refine wq (by simp [e1];with_reducible rfl) ?_|refine wt (by simpa [e1]) ?_|refine wf (by simpa [e1]) ?_|refine xt (by simpa [e1]) ?_|refine xf (by simpa [e1]) ?_|apply wp_bs|apply wp_b|refine wp_sr ?_|refine wp_sx ?_|refine wp_ret' ?_|refine wp_skip' ?_|refine wp_exit' ?_)
  refine wp_imp (loop s.length 0 0 (by simp) (by omega)) ?_
  rintro ex st ⟨rfl,rfl⟩
  try simp only [if_true]
  repeat (first|apply wp_as|apply wp_ss|refine wr (by simp;with_reducible rfl) ?_|refine wq (by simp;with_reducible rfl) ?_|refine wt (by simpa) ?_|refine wf (by simpa) ?_|refine xt (by simpa) ?_|refine xf (by simpa) ?_|apply wp_bs|apply wp_b|refine wp_sr ?_|refine wp_sx ?_|refine wp_ret' ?_|refine wp_skip' ?_|refine wp_exit' ?_)
  simp [zi349,durf]
end Go.Idl
namespace Go.Idl
open Go
theorem prs_le21:∀ n,n≤7→(prs n).length≤21:=by decide +kernel
end Go.Idl
namespace Go.Idl
open Go
theorem ev_ContainsI (xs:List Int) (c:Bool) (y:Int) (hl:xs.length≤2000000):Ev tb zl551 [] [L xs c,I y] [] ⟨Bo (decide (y ∈ xs)),[],[],[]⟩:=by
  have e1:=ev_lim (ev_Index xs c y hl)
  have h1:decide (0≤idx (fun x=>decide (y=x)) 0 xs)=decide (y ∈ xs):=by
    rw [idx_ge _ xs 0 (by omega),Bool.eq_iff_iff,List.any_eq_true,decide_eq_true_eq]
    exact ⟨fun ⟨x,h,h2⟩=>by rw [of_decide_eq_true h2];exact h,fun h=>⟨y,h,by simp⟩⟩
  refine call_of_wp zt551 rfl ?_
  repeat (first|apply wp_as|apply wp_ss|refine wr (by simp [e1];with_reducible rfl) ?_|refine wq (by simp [e1];with_reducible rfl) ?_|refine wt (by simpa [e1]) ?_|refine wf (by simpa [e1]) ?_|refine xt (by simpa [e1]) ?_|refine xf (by simpa [e1]) ?_|apply wp_bs|apply wp_b|refine wp_sr ?_|refine wp_sx ?_|refine wp_ret' ?_|refine wp_skip' ?_|refine wp_exit' ?_)
  simp [zi551,h1]
theorem ev_DeleteFunc_Z (F:Lab) (caps:List IV) (M:List Boxes):Ev tb zl266 [] [Z,.fn F caps] M ⟨Z,[],M,[]⟩:=by
  have e1:=ev_lim (ev_IndexFuncL [] F caps (M++[[]]) (fun _=>false) (by simp) (fun x hx=>by cases hx))
  rw [show idx (fun _=>false) 0 []=-1 from rfl] at e1
  simp only [O,ints_nil] at e1
  refine call_of_wp zt266 rfl ?_
  repeat (first|apply wp_as|apply wp_ss|refine wr (by simp [e1];with_reducible rfl) ?_|refine wq (by simp [e1];with_reducible rfl) ?_|refine wt (by simpa [e1]) ?_|refine wf (by simpa [e1]) ?_|refine xt (by simpa [e1]) ?_|refine xf (by simpa [e1]) ?_|apply wp_bs|apply wp_b|refine wp_sr ?_|refine wp_sx ?_|refine wp_ret' ?_|refine wp_skip' ?_|refine wp_exit' ?_)
  simp [zi266]
theorem ev_sp_F1 (x:Int) (K:List Int) (hl:K.length≤2000000) (B:Boxes) (k:Nat) (hB:B[k]? = some [O K]) (Ms:List Boxes):Ev tb zl516 [] [I x,.bptr 0 k 0] (B::Ms) ⟨Bo (decide (x ∈ K)),[],B::Ms,[]⟩:=by
  have e1:=fun c=>ev_lim (ev_ContainsI K c x hl)
  refine call_of_wp zt516 rfl ?_
  repeat (first|apply wp_as|apply wp_ss|refine wr (by simp [hB,e1];with_reducible rfl) ?_|refine wq (by simp [hB,e1];with_reducible rfl) ?_|refine wt (by simpa [hB,e1]) ?_|refine wf (by simpa [hB,e1]) ?_|refine xt (by simpa [hB,e1]) ?_|refine xf (by simpa [hB,e1]) ?_|apply wp_bs|apply wp_b|refine wp_sr ?_|refine wp_sx ?_|refine wp_ret' ?_|refine wp_skip' ?_|refine wp_exit' ?_)
  simp [zi516]
set_option maxHeartbeats 4000000 in
theorem sp_loop (n:Nat) (es:List (Int×Int)) (c:Bool) (hl:es.length≤1000) (K:List Int) (hK:K.length≤1000) (oth:IV) (hoth:oth=Z ∨ ∃ l,oth=O l) (P:List (Int×Int)) (hP:P.length≤1000):∀ (m k:Nat) (B:Boxes),k+m=P.length →
    wp tb (.loop z515l14) { T:=[(1,.bptr 0 0 0),(6,.bptr 0 1 0),(7,oth),(33,nl2 P),(34,I P.length),(35,I k)],loc:=[I n,L2 es c]::[O K]::B,M:=[] }
      (fun ex st=>(ex=.exit 0∧(P.drop k).all (spP es K)=true∧∃ B',st={ T:=[(1,.bptr 0 0 0),(6,.bptr 0 1 0),(7,oth),(33,nl2 P),(34,I P.length),(35,I P.length),(36,Bo false)],loc:=[I n,L2 es c]::[O K]::B',M:=[] }) ∨
        (ex=.ret∧(P.drop k).all (spP es K)=false∧∃ B',st={ T:=[(2,Z),(3,Z),(4,Bo false)],loc:=B',M:=[] })):=by
  have back:∀ G:List (Int×Int),nl2 G=Z∧G=[] ∨ nl2 G=O2 G:=fun G=>by cases G <;> simp [nl2]
  intro m
  induction m with
  | zero =>
    intro k B hk
    have h3:k=P.length:=hk
    subst h3
    rw [List.drop_length]
    rcases back P with ⟨hb,-⟩ | hb <;> rw [hb]
    · rcases hoth with rfl | ⟨l,rfl⟩
      · refine wp_loop ?_
        repeat (first|apply wp_as|apply wp_ss|refine wr (by simp;with_reducible rfl) ?_|refine wq (by simp;with_reducible rfl) ?_|refine wt (by simpa) ?_|refine wf (by simpa) ?_|refine xt (by simpa) ?_|refine xf (by simpa) ?_|apply wp_bs|apply wp_b|refine wp_sr ?_|refine wp_sx ?_|refine wp_ret' ?_|refine wp_skip' ?_|refine wp_exit' ?_)
        exact .inl ⟨rfl,rfl,B,rfl⟩
      · refine wp_loop ?_
        repeat (first|apply wp_as|apply wp_ss|refine wr (by simp;with_reducible rfl) ?_|refine wq (by simp;with_reducible rfl) ?_|refine wt (by simpa) ?_|refine wf (by simpa) ?_|refine xt (by simpa) ?_|refine xf (by simpa) ?_|apply wp_bs|apply wp_b|refine wp_sr ?_|refine wp_sx ?_|refine wp_ret' ?_|refine wp_skip' ?_|refine wp_exit' ?_)
        exact .inl ⟨rfl,rfl,B,rfl⟩
    · rcases hoth with rfl | ⟨l,rfl⟩
      · refine wp_loop ?_
        repeat (first|apply wp_as|apply wp_ss|refine wr (by simp;with_reducible rfl) ?_|refine wq (by simp;with_reducible rfl) ?_|refine wt (by simpa) ?_|refine wf (by simpa) ?_|refine xt (by simpa) ?_|refine xf (by simpa) ?_|apply wp_bs|apply wp_b|refine wp_sr ?_|refine wp_sx ?_|refine wp_ret' ?_|refine wp_skip' ?_|refine wp_exit' ?_)
        exact .inl ⟨rfl,rfl,B,rfl⟩
      · refine wp_loop ?_
        repeat (first|apply wp_as|apply wp_ss|refine wr (by simp;with_reducible rfl) ?_|refine wq (by simp;with_reducible rfl) ?_|refine wt (by simpa) ?_|refine wf (by simpa) ?_|refine xt (by simpa) ?_|refine xf (by simpa) ?_|apply wp_bs|apply wp_b|refine wp_sr ?_|refine wp_sx ?_|refine wp_ret' ?_|refine wp_skip' ?_|refine wp_exit' ?_)
        exact .inl ⟨rfl,rfl,B,rfl⟩
  | succ m ih =>
    intro k B hk
    have hk2:k < P.length:=by omega
    have hd:P.drop k=P[k]::P.drop (k+1):=List.drop_eq_getElem_cons hk2
    obtain ⟨⟨a,b⟩,hx⟩:∃ s,s=P[k]:=⟨_,rfl⟩
    have hx2:=hx.symm
    have w1:IntKind.i64.wrap ((k:Int)+1)=((k+1:Nat):Int):=wrapS (by omega)
    have e1:=fun c y=>ev_lim (ev_ContainsI K c y (by omega))
    have e2:=fun c=>ev_lim (ev_has n 2 es c a b (.inl rfl) (by omega) [])
    have hn:=fun B=>ih (k+1) B (by omega)
    rw [hd,← hx,List.all_cons]
    have hsp:spP es K (a,b)=(decide (a ∈ K) != decide (b ∈ K) || hasM es a b == decide (a ∈ K)):=rfl
    rw [hsp]
    have hnb:nl2 P=O2 P:=by cases P with | nil=>simp at hk2 | cons x r=>rfl
    rw [hnb] at hn ⊢
    have e1a:=fun c=>e1 c a
    have e1b:=fun c=>e1 c b
    generalize hasM es a b=q at *
    generalize decide (a ∈ K)=p1 at *
    generalize decide (b ∈ K)=p2 at *
    clear hsp
    cases p1 <;> cases p2 <;> cases q <;> rcases hoth with rfl | ⟨l,rfl⟩
    all_goals
      refine wp_loop ?_
      repeat (first|apply wp_as|apply wp_ss|refine wr (by simp [hk2,hx2];with_reducible rfl) ?_|refine wq (by simp [hk2,hx2];with_reducible rfl) ?_|refine wt (by simpa [hk2,hx2]) ?_|refine wf (by simpa [hk2,hx2]) ?_|refine xt (by simpa [hk2,hx2]) ?_|refine xf (by simpa [hk2,hx2]) ?_|apply wp_bs|apply wp_b|refine wp_sr ?_|refine wp_sx ?_|refine wp_ret' ?_|refine wp_skip' ?_|refine wp_exit' ?_)
      refine wp_ra (by simp [e1a,e1b];with_reducible rfl) (by simp;with_reducible rfl) ?_ ?_
      · intro p hp
        simp only [List.mem_cons,List.not_mem_nil,or_false] at hp
        rcases hp with rfl | rfl | rfl
        · exact ⟨_,by simp [e1a,e1b];with_reducible rfl,by simp⟩
        · exact ⟨_,by simp [e1a,e1b];with_reducible rfl,by simp⟩
        · exact ⟨_,by simp [e1a,e1b];with_reducible rfl,by simp⟩
      repeat (first|apply wp_as|apply wp_ss|refine wr (by simp [e2,w1];with_reducible rfl) ?_|refine wq (by simp [e2,w1];with_reducible rfl) ?_|refine wt (by simpa [e2,w1]) ?_|refine wf (by simpa [e2,w1]) ?_|refine xt (by simpa [e2,w1]) ?_|refine xf (by simpa [e2,w1]) ?_|apply wp_bs|apply wp_b|refine wp_sr ?_|refine wp_sx ?_|refine wp_ret' ?_|refine wp_skip' ?_|refine wp_exit' ?_)
      first | exact hn _ | exact .inr ⟨rfl,rfl,_,rfl⟩
abbrev spA (K:List Int):List Int:=asc 0 [] K
abbrev spO (n:Nat) (K:List Int):List Int:=(idxB n (-1)).filter fun x=>!decide (x ∈ K)
theorem spA_mem {K:List Int} {x:Int}:x ∈ spA K ↔ x ∈ K:=by
  have:=(asc_ok K [] .nil).2.mem_iff (a:=x)
  simpa using this
theorem spA_len (K:List Int):(spA K).length=K.length:=by
  have:=(asc_ok K [] .nil).2.length_eq
  simpa using this
abbrev SPR (n:Nat) (es:List (Int×Int)):IV:=if spOK n es=true then .tup [O (spA (spK (degs n es))),O (spO n (spA (spK (degs n es)))),Bo true] else .tup [Z,Z,Bo false]
set_option maxHeartbeats 8000000 in
theorem ev_SplitParts_0 (e0:Nat) (c:Bool) (v1:limF tb zl26 [] [.agg [I 0,.lst e0 [] c]] []=some ⟨Bo true,[],[],[]⟩) (g1:limF tb zl9 [] [.agg [I 0,.lst e0 [] c]] []=some ⟨O (degs 0 []),[],[],[]⟩) :
    Ev tb zl515 [] [.agg [I 0,.lst e0 [] c]] [] ⟨.tup [O [],O [],Bo true],[],[],[]⟩:=by
  rw [show degs 0 []=[] from rfl] at g1
  have e2:=ev_lim (ev_indices 0 (-1) (by omega))
  rw [show idxB 0 (-1)=[] from rfl,show ((0:Nat):Int)=0 from rfl] at e2
  have e3:=fun c=>ev_lim (ev_DurfeeOf [] c rfl)
  rw [show durf (fall [])=0 from rfl,show ((0:Nat):Int)=0 from rfl] at e3
  have e4:=fun c=>ev_lim (ev_greatest [] c (fun x hx=>by cases hx) Z [] (.inr ⟨rfl,rfl⟩) (by simp) (fun v hv=>by cases hv) 0 (by simp))
  rw [show topD [] [] 0=[] from rfl,show ((0:Nat):Int)=0 from rfl] at e4
  have e5:=ev_lim (ev_Sort [] (by simp) [])
  rw [show asc 0 [] []=[] from rfl] at e5
  have e6:=ev_lim (ev_DeleteFunc_Z zl516 [.bptr 0 1 0] [[[I 0,.lst e0 [] c],[O []]]])
  have e7:=ev_lim (ev_impl_pairs 0 (by omega))
  rw [show prs 0=[] from rfl,show ((0:Nat):Int)=0 from rfl] at e7
  have e8:=fun c=>ev_lim (ev_clone [] c (by simp))
  have e9:=ev_lim ev_clone_Z
  simp only [nlI,O,L,ints_nil,nl2_nil] at g1 e2 e3 e4 e5 e6 e7 e8 e9
  refine call_of_wp zt515 rfl ?_
  repeat (first|apply wp_as|apply wp_ss|refine wr (by simp [v1];with_reducible rfl) ?_|refine wq (by simp [v1];with_reducible rfl) ?_|refine wt (by simpa [v1]) ?_|refine wf (by simpa [v1]) ?_|refine xt (by simpa [v1]) ?_|refine xf (by simpa [v1]) ?_|apply wp_bs|apply wp_b|refine wp_sr ?_|refine wp_sx ?_|refine wp_ret' ?_|refine wp_skip' ?_|refine wp_exit' ?_)
  repeat (first|apply wp_as|apply wp_ss|refine wr (by simp [g1];with_reducible rfl) ?_|refine wq (by simp [g1];with_reducible rfl) ?_|refine wt (by simpa [g1]) ?_|refine wf (by simpa [g1]) ?_|refine xt (by simpa [g1]) ?_|refine xf (by simpa [g1]) ?_|apply wp_bs|apply wp_b|refine wp_sr ?_|refine wp_sx ?_|refine wp_ret' ?_|refine wp_skip' ?_|refine wp_exit' ?_)
  repeat (first|apply wp_as|apply wp_ss|refine wr (by simp [e2,e3,e4];with_reducible rfl) ?_|refine wq (by simp [e2,e3,e4];with_reducible rfl) ?_|refine wt (by simpa [e2,e3,e4]) ?_|refine wf (by simpa [e2,e3,e4]) ?_|refine xt (by simpa [e2,e3,e4]) ?_|refine xf (by simpa [e2,e3,e4]) ?_|apply wp_bs|apply wp_b|refine wp_sr ?_|refine wp_sx ?_|refine wp_ret' ?_|refine wp_skip' ?_|refine wp_exit' ?_)
  repeat (first|apply wp_as|apply wp_ss|refine wr (by simp [e5];with_reducible rfl) ?_|refine wq (by simp [e5];with_reducible rfl) ?_|refine wt (by simpa [e5]) ?_|refine wf (by simpa [e5]) ?_|refine xt (by simpa [e5]) ?_|refine xf (by simpa [e5]) ?_|apply wp_bs|apply wp_b|refine wp_sr ?_|refine wp_sx ?_|refine wp_ret' ?_|refine wp_skip' ?_|refine wp_exit' ?_)
  repeat (first|apply wp_as|apply wp_ss|refine wr (by simp [e2,e6];with_reducible rfl) ?_|refine wq (by simp [e2,e6];with_reducible rfl) ?_|refine wt (by simpa [e2,e6]) ?_|refine wf (by simpa [e2,e6]) ?_|refine xt (by simpa [e2,e6]) ?_|refine xf (by simpa [e2,e6]) ?_|apply wp_bs|apply wp_b|refine wp_sr ?_|refine wp_sx ?_|refine wp_ret' ?_|refine wp_skip' ?_|refine wp_exit' ?_)
  repeat (first|apply wp_as|apply wp_ss|refine wr (by simp [e7];with_reducible rfl) ?_|refine wq (by simp [e7];with_reducible rfl) ?_|refine wt (by simpa [e7]) ?_|refine wf (by simpa [e7]) ?_|refine xt (by simpa [e7]) ?_|refine xf (by simpa [e7]) ?_|apply wp_bs|apply wp_b|refine wp_sr ?_|refine wp_sx ?_|refine wp_ret' ?_|refine wp_skip' ?_|refine wp_exit' ?_)
  refine wp_loop ?_
  repeat (first|apply wp_as|apply wp_ss|refine wr (by simp [e8,e9];with_reducible rfl) ?_|refine wq (by simp [e8,e9];with_reducible rfl) ?_|refine wt (by simpa [e8,e9]) ?_|refine wf (by simpa [e8,e9]) ?_|refine xt (by simpa [e8,e9]) ?_|refine xf (by simpa [e8,e9]) ?_|apply wp_bs|apply wp_b|refine wp_sr ?_|refine wp_sx ?_|refine wp_ret' ?_|refine wp_skip' ?_|refine wp_exit' ?_)
  simp [zi515]
set_option maxHeartbeats 8000000 in
theorem ev_SplitParts (n:Nat) (es:List (Int×Int)) (c:Bool) (hv:vGraph n es=true):Ev tb zl515 [] [Gr n es c] [] ⟨SPR n es,[],[],[]⟩:=by
  have hn7:=(vG_iff.1 hv).2.2
  have h21:=vG21 hn7 hv
  have hf:Fit es:=fun e he=>by have:=mem_prs.1 ((vG_iff.1 hv).2.1 e he);omega
  have hin:EdgesIn n es:=fun e he=>by have:=mem_prs.1 ((vG_iff.1 hv).2.1 e he);omega
  have v1:=fun c=>ev_lim (ev_ValidGraph n es c hf (by omega))
  rw [hv] at v1
  have e1:=fun c=>ev_lim (ev_Graph_degrees n es c (by omega) (by omega) hin)
  by_cases h0:n=0
  · have hes:es=[]:=by
      cases es with
      | nil=>rfl
      | cons e r=>have:=mem_prs.1 ((vG_iff.1 hv).2.1 e (by simp));omega
    subst h0 hes
    have v1:=v1 c
    have e1:=e1 c
    rw [show ((0:Nat):Int)=0 from rfl] at v1 e1 ⊢
    exact ev_SplitParts_0 2 c v1 e1
  have hdl:(degs n es).length=n:=degs_len n es
  have hvd:=degs_valid hv
  have hvf:=valid_few hvd
  have hil:(idxB n (-1)).length=n:=by rw [idxB_all];simp
  have hnl:nlI (idxB n (-1))=O (idxB n (-1)):=by
    cases hq:idxB n (-1) with
    | nil=>rw [hq] at hil;simp at hil;omega
    | cons x r=>rfl
  have e2:=ev_lim (ev_indices n (-1) (by omega))
  rw [hnl] at e2
  have e3:=fun c=>ev_lim (ev_DurfeeOf (degs n es) c hvd)
  have hdm:=durf_le (fall (degs n es))
  rw [fall_len,hdl] at hdm
  have e4:=fun c c'=>ev_lim (ev_greatest (degs n es) c (fun x hx=>by have:=hvf.2 x hx;omega) (L (idxB n (-1)) c') (idxB n (-1)) (.inl ⟨_,rfl⟩) (by omega) (fun v hv=>by have:=mem_idxB.1 hv;omega) (durf (fall (degs n es))) (by omega))
  rw [show topD (degs n es) (idxB n (-1)) (durf (fall (degs n es)))=spK (degs n es) by rw [spK,hdl]] at e4
  have hkl:=spK_len (degs n es)
  have e5:=ev_lim (ev_Sort (spK (degs n es)) (by omega) [])
  rw [show asc 0 [] (spK (degs n es))=spA (spK (degs n es)) from rfl] at e5
  have hal:=spA_len (spK (degs n es))
  have e6:=ev_lim (ev_DeleteFunc (idxB n (-1)) zl516 [.bptr 0 1 0] [[[I n,L2 es c],[O (spA (spK (degs n es)))]]] (fun x=>decide (x ∈ spA (spK (degs n es)))) (by omega) (fun M' x _=>by
    rw [show [[[I (n:Int),L2 es c],[O (spA (spK (degs n es)))]]]++[[]]++M'=[[I (n:Int),L2 es c],[O (spA (spK (degs n es)))]]::([[]]++M') from rfl]
    exact ev_sp_F1 x _ (by omega) [[I n,L2 es c],[O (spA (spK (degs n es)))]] 1 rfl ([[]]++M')))
  rw [show ((idxB n (-1)).filter fun x=>!decide (x ∈ spA (spK (degs n es))))=spO n (spA (spK (degs n es))) from rfl] at e6
  have e7:=ev_lim (ev_impl_pairs n (by omega))
  have hpl:(prs n).length≤1000:=by
    have h2:∀ n,n≤7→(prs n).length≤21:=by decide +kernel
    have:=h2 _ hn7
    omega
  have hsp:(prs n).all (spP es (spA (spK (degs n es))))=spOK n es:=by
    rw [spOK]
    congr 1
    funext e
    simp only [spP,spA_mem]
  have e8:=fun c=>ev_lim (ev_clone (spA (spK (degs n es))) c (by omega))
  have hol:(spO n (spA (spK (degs n es)))).length≤n:=by
    have:(spO n (spA (spK (degs n es)))).length≤(idxB n (-1)).length:=List.length_filter_le _ _
    omega
  have e9:=fun c=>ev_lim (ev_clone (spO n (spA (spK (degs n es)))) c (by omega))
  have loop:=sp_loop n es c (by omega) (spA (spK (degs n es))) (by omega) (O (spO n (spA (spK (degs n es))))) (.inr ⟨_,rfl⟩) (prs n) hpl (prs n).length 0 [] (by omega)
  rw [show ((0:Nat):Int)=0 from rfl] at loop
  simp only [List.drop_zero,hsp] at loop
  have back:∀ G:List (Int×Int),nl2 G=Z∧G=[] ∨ nl2 G=O2 G:=fun G=>by cases G <;> simp [nl2]
  simp only [SPR]
  generalize spO n (spA (spK (degs n es)))=Q at *
  generalize spA (spK (degs n es))=K at *
  generalize spK (degs n es)=K0 at *
  generalize durf (fall (degs n es))=dm at *
  generalize idxB n (-1)=ix at *
  generalize degs n es=D at *
  generalize spOK n es=ok at *
  have fin:∀ (ex:Ex) (st:St),((ex=.exit 0∧ok=true∧∃ B',st={ T:=[(1,.bptr 0 0 0),(6,.bptr 0 1 0),(7,O Q),(33,nl2 (prs n)),(34,I (prs n).length),(35,I (prs n).length),(36,Bo false)],loc:=[I n,L2 es c]::[O K]::B',M:=[] }) ∨
        (ex=.ret∧ok=false∧∃ B',st={ T:=[(2,Z),(3,Z),(4,Bo false)],loc:=B',M:=[] }))→True:=fun _ _ _=>trivial
  clear fin
  rcases back (prs n) with ⟨hb,hP⟩ | hb
  · rw [hb] at loop e7
    rw [hP] at loop
    simp only [List.length_nil] at loop
    rw [show ((0:Nat):Int)=0 from rfl] at loop
    refine call_of_wp zt515 rfl ?_
    repeat (first|apply wp_as|apply wp_ss|refine wr (by simp [v1];with_reducible rfl) ?_|refine wq (by simp [v1];with_reducible rfl) ?_|refine wt (by simpa [v1]) ?_|refine wf (by simpa [v1]) ?_|refine xt (by simpa [v1]) ?_|refine xf (by simpa [v1]) ?_|apply wp_bs|apply wp_b|refine wp_sr ?_|refine wp_sx ?_|refine wp_ret' ?_|refine wp_skip' ?_|refine wp_exit' ?_)
    repeat (first|apply wp_as|apply wp_ss|refine wr (by simp [e1];with_reducible rfl) ?_|refine wq (by simp [e1];with_reducible rfl) ?_|refine wt (by simpa [e1]) ?_|refine wf (by simpa [e1]) ?_|refine xt (by simpa [e1]) ?_|refine xf (by simpa [e1]) ?_|apply wp_bs|apply wp_b|refine wp_sr ?_|refine wp_sx ?_|refine wp_ret' ?_|refine wp_skip' ?_|refine wp_exit' ?_)
    repeat (first|apply wp_as|apply wp_ss|refine wr (by simp [e2,e3,e4];with_reducible rfl) ?_|refine wq (by simp [e2,e3,e4];with_reducible rfl) ?_|refine wt (by simpa [e2,e3,e4]) ?_|refine wf (by simpa [e2,e3,e4]) ?_|refine xt (by simpa [e2,e3,e4]) ?_|refine xf (by simpa [e2,e3,e4]) ?_|apply wp_bs|apply wp_b|refine wp_sr ?_|refine wp_sx ?_|refine wp_ret' ?_|refine wp_skip' ?_|refine wp_exit' ?_)
    repeat (first|apply wp_as|apply wp_ss|refine wr (by simp [e5,↓ints_isSc];with_reducible rfl) ?_|refine wq (by simp [e5,↓ints_isSc];with_reducible rfl) ?_|refine wt (by simpa [e5,↓ints_isSc]) ?_|refine wf (by simpa [e5,↓ints_isSc]) ?_|refine xt (by simpa [e5,↓ints_isSc]) ?_|refine xf (by simpa [e5,↓ints_isSc]) ?_|apply wp_bs|apply wp_b|refine wp_sr ?_|refine wp_sx ?_|refine wp_ret' ?_|refine wp_skip' ?_|refine wp_exit' ?_)
    repeat (first|apply wp_as|apply wp_ss|refine wr (by simp [e2,e6];with_reducible rfl) ?_|refine wq (by simp [e2,e6];with_reducible rfl) ?_|refine wt (by simpa [e2,e6]) ?_|refine wf (by simpa [e2,e6]) ?_|refine xt (by simpa [e2,e6]) ?_|refine xf (by simpa [e2,e6]) ?_|apply wp_bs|apply wp_b|refine wp_sr ?_|refine wp_sx ?_|refine wp_ret' ?_|refine wp_skip' ?_|refine wp_exit' ?_)
    repeat (first|apply wp_as|apply wp_ss|refine wr (by simp [e7];with_reducible rfl) ?_|refine wq (by simp [e7];with_reducible rfl) ?_|refine wt (by simpa [e7]) ?_|refine wf (by simpa [e7]) ?_|refine xt (by simpa [e7]) ?_|refine xf (by simpa [e7]) ?_|apply wp_bs|apply wp_b|refine wp_sr ?_|refine wp_sx ?_|refine wp_ret' ?_|refine wp_skip' ?_|refine wp_exit' ?_)
    refine wp_imp loop ?_
    rintro ex st (⟨rfl,rfl,B',rfl⟩ | ⟨rfl,rfl,B',rfl⟩)
    · simp only [if_true]
      repeat (first|apply wp_as|apply wp_ss|refine wr (by simp [e8,e9];with_reducible rfl) ?_|refine wq (by simp [e8,e9];with_reducible rfl) ?_|refine wt (by simpa [e8,e9]) ?_|refine wf (by simpa [e8,e9]) ?_|refine xt (by simpa [e8,e9]) ?_|refine xf (by simpa [e8,e9]) ?_|apply wp_bs|apply wp_b|refine wp_sr ?_|refine wp_sx ?_|refine wp_ret' ?_|refine wp_skip' ?_|refine wp_exit' ?_)
      simp [zi515]
    · simp [zi515]
  · rw [hb] at loop e7
    refine call_of_wp zt515 rfl ?_
    repeat (first|apply wp_as|apply wp_ss|refine wr (by simp [v1];with_reducible rfl) ?_|refine wq (by simp [v1];with_reducible rfl) ?_|refine wt (by simpa [v1]) ?_|refine wf (by simpa [v1]) ?_|refine xt (by simpa [v1]) ?_|refine xf (by simpa [v1]) ?_|apply wp_bs|apply wp_b|refine wp_sr ?_|refine wp_sx ?_|refine wp_ret' ?_|refine wp_skip' ?_|refine wp_exit' ?_)
    repeat (first|apply wp_as|apply wp_ss|refine wr (by simp [e1];with_reducible rfl) ?_|refine wq (by simp [e1];with_reducible rfl) ?_|refine wt (by simpa [e1]) ?_|refine wf (by simpa [e1]) ?_|refine xt (by simpa [e1]) ?_|refine xf (by simpa [e1]) ?_|apply wp_bs|apply wp_b|refine wp_sr ?_|refine wp_sx ?_|refine wp_ret' ?_|refine wp_skip' ?_|refine wp_exit' ?_)
    repeat (first|apply wp_as|apply wp_ss|refine wr (by simp [e2,e3,e4];with_reducible rfl) ?_|refine wq (by simp [e2,e3,e4];with_reducible rfl) ?_|refine wt (by simpa [e2,e3,e4]) ?_|refine wf (by simpa [e2,e3,e4]) ?_|refine xt (by simpa [e2,e3,e4]) ?_|refine xf (by simpa [e2,e3,e4]) ?_|apply wp_bs|apply wp_b|refine wp_sr ?_|refine wp_sx ?_|refine wp_ret' ?_|refine wp_skip' ?_|refine wp_exit' ?_)
    repeat (first|apply wp_as|apply wp_ss|refine wr (by simp [e5,↓ints_isSc];with_reducible rfl) ?_|refine wq (by simp [e5,↓ints_isSc];with_reducible rfl) ?_|refine wt (by simpa [e5,↓ints_isSc]) ?_|refine wf (by simpa [e5,↓ints_isSc]) ?_|refine xt (by simpa [e5,↓ints_isSc]) ?_|refine xf (by simpa [e5,↓ints_isSc]) ?_|apply wp_bs|apply wp_b|refine wp_sr ?_|refine wp_sx ?_|refine wp_ret' ?_|refine wp_skip' ?_|refine wp_exit' ?_)
    repeat (first|apply wp_as|apply wp_ss|refine wr (by simp [e2,e6];with_reducible rfl) ?_|refine wq (by simp [e2,e6];with_reducible rfl) ?_|refine wt (by simpa [e2,e6]) ?_|refine wf (by simpa [e2,e6]) ?_|refine xt (by simpa [e2,e6]) ?_|refine xf (by simpa [e2,e6]) ?_|apply wp_bs|apply wp_b|refine wp_sr ?_|refine wp_sx ?_|refine wp_ret' ?_|refine wp_skip' ?_|refine wp_exit' ?_)
    repeat (first|apply wp_as|apply wp_ss|refine wr (by simp [e7];with_reducible rfl) ?_|refine wq (by simp [e7];with_reducible rfl) ?_|refine wt (by simpa [e7]) ?_|refine wf (by simpa [e7]) ?_|refine xt (by simpa [e7]) ?_|refine xf (by simpa [e7]) ?_|apply wp_bs|apply wp_b|refine wp_sr ?_|refine wp_sx ?_|refine wp_ret' ?_|refine wp_skip' ?_|refine wp_exit' ?_)
    refine wp_imp loop ?_
    rintro ex st (⟨rfl,rfl,B',rfl⟩ | ⟨rfl,rfl,B',rfl⟩)
    · simp only [if_true]
      repeat (first|apply wp_as|apply wp_ss|refine wr (by simp [e8,e9];with_reducible rfl) ?_|refine wq (by simp [e8,e9];with_reducible rfl) ?_|refine wt (by simpa [e8,e9]) ?_|refine wf (by simpa [e8,e9]) ?_|refine xt (by simpa [e8,e9]) ?_|refine xf (by simpa [e8,e9]) ?_|apply wp_bs|apply wp_b|refine wp_sr ?_|refine wp_sx ?_|refine wp_ret' ?_|refine wp_skip' ?_|refine wp_exit' ?_)
      simp [zi515]
    · simp [zi515]
end Go.Idl
namespace Go.Idl
theorem idxV_pw (n:Nat) (v:Int):(idxB n v).Pairwise (fun a b:Int=>a < b):=by
  refine List.Pairwise.filter _ ?_
  rw [List.pairwise_map]
  exact List.pairwise_lt_range.imp fun h=>by omega
end Go.Idl
namespace Go.Idl
def scanG (d:List Int) (v:Int) (gone:List Int):Nat→Int
  | 0=>-1
  | j+1=>if (j:Int) ≠ v∧(j:Int) ∉ gone∧(scanG d v gone j < 0 ∨ d.getD (scanG d v gone j).toNat 0 < d.getD j 0) then (j:Int) else scanG d v gone j
theorem scanG_spec (d:List Int) (v:Int) (gone:List Int):∀ j:Nat,(scanG d v gone j=-1∧∀ i:Nat,i < j→(i:Int) ≠ v→(i:Int) ∉ gone→False) ∨
    (∃ b:Nat,scanG d v gone j=b∧b < j∧(b:Int) ≠ v∧(b:Int) ∉ gone∧∀ i:Nat,i < j→(i:Int) ≠ v→(i:Int) ∉ gone→i ≠ b→lexR d b i)
  | 0=>.inl ⟨rfl,fun i h=>by omega⟩
  | j+1=>by
    have ih:=scanG_spec d v gone j
    rw [scanG]
    by_cases h1:(j:Int) ≠ v∧(j:Int) ∉ gone
    · obtain ⟨h1,h2⟩:=h1
      rcases ih with ⟨h3,h4⟩ | ⟨b,h3,h4,h5,h6,h7⟩
      · rw [if_pos ⟨h1,h2,.inl (by omega)⟩]
        refine .inr ⟨j,rfl,by omega,h1,h2,fun i hi q1 q2 q3=>(h4 i (by omega) q1 q2).elim⟩
      · rw [h3,Int.toNat_natCast]
        by_cases h8:d.getD b 0 < d.getD j 0
        · rw [if_pos ⟨h1,h2,.inr h8⟩]
          refine .inr ⟨j,rfl,by omega,h1,h2,fun i hi q1 q2 q3=>?_⟩
          by_cases h9:i=b
          · subst h9
            left;simpa using h8
          · have:=h7 i (by omega) q1 q2 h9
            simp only [lexR,Int.toNat_natCast] at this ⊢
            left;omega
        · rw [if_neg (fun h=>by rcases h.2.2 with h | h;omega;exact h8 h)]
          refine .inr ⟨b,rfl,by omega,h5,h6,fun i hi q1 q2 q3=>?_⟩
          by_cases h9:i=j
          · subst h9
            simp only [lexR,Int.toNat_natCast]
            omega
          · exact h7 i (by omega) q1 q2 q3
    · have hn:¬ ((j:Int) ≠ v∧(j:Int) ∉ gone∧(scanG d v gone j < 0 ∨ d.getD (scanG d v gone j).toNat 0 < d.getD j 0)):=fun h=>h1 ⟨h.1,h.2.1⟩
      rw [if_neg hn]
      rcases ih with ⟨h3,h4⟩ | ⟨b,h3,h4,h5,h6,h7⟩
      · refine .inl ⟨h3,fun i hi q1 q2=>?_⟩
        by_cases h9:i=j
        · subst h9;exact h1 ⟨q1,q2⟩
        · exact h4 i (by omega) q1 q2
      · refine .inr ⟨b,h3,by omega,h5,h6,fun i hi q1 q2 q3=>?_⟩
        by_cases h9:i=j
        · subst h9;exact (h1 ⟨q1,q2⟩).elim
        · exact h7 i (by omega) q1 q2 q3
end Go.Idl
namespace Go.Idl
open Go
def rgF (n i:Nat):List Int:=((List.range n).drop i).map fun v:Nat=>(v:Int)
theorem rgF_cons {n i:Nat} (h:i < n):rgF n i=(i:Int)::rgF n (i+1):=by
  rw [rgF,rgF,List.drop_eq_getElem_cons (by simpa using h)];simp
theorem rgF_end (n:Nat):rgF n n=[]:=by simp [rgF]
theorem rgF_all (n:Nat):rgF n 0=idxB n (-1):=by rw [rgF,idxB_all,List.drop_zero]
end Go.Idl
namespace Go.Idl
open Go
theorem scanG_sortedM {d:List Int} {k:Nat} (hk:k < (srtC (gtD d) [] (idxB d.length (-1))).length) :
    scanG d (-1) ((srtC (gtD d) [] (idxB d.length (-1))).take k) d.length=(srtC (gtD d) [] (idxB d.length (-1)))[k]:=by
  obtain ⟨r,hr⟩:∃ r,r=srtC (gtD d) [] (idxB d.length (-1)):=⟨_,rfl⟩
  have hrp:r.Perm (idxB d.length (-1)):=by rw [hr];simpa using srtC_perm (gtD d) (idxB d.length (-1)) []
  have hrlex:r.Pairwise (lexR d):=by rw [hr];exact srtC_lex (left:=d) _ [] .nil (by simp) (idxV_pw _ _)
  have hrn:r.Nodup:=hrp.nodup_iff.2 ((idxV_pw _ _).imp fun h=>by omega)
  simp only [← hr] at hk ⊢
  have hm:∀ x,x ∈ r ↔ (0≤x∧x < d.length)∧x ≠ (-1:Int):=fun x=>by
    rw [hrp.mem_iff,mem_idxB]
    exact ⟨fun h=>⟨h,by omega⟩,fun h=>h.1⟩
  have hsplit:r=r.take k++(r[k]::r.drop (k+1)):=by rw [List.getElem_cons_drop,List.take_append_drop]
  rw [hsplit] at hrlex hrn
  obtain ⟨p1,p2,p3⟩:=List.pairwise_append.1 hrlex
  have p4:=(List.pairwise_cons.1 p2).1
  obtain ⟨n1,n2,n3⟩:=List.nodup_append.1 hrn
  have hkm:=(hm r[k]).1 (List.getElem_mem hk)
  have hkg:r[k] ∉ r.take k:=fun h=>n3 _ h _ List.mem_cons_self rfl
  obtain ⟨q,hq⟩:=Int.eq_ofNat_of_zero_le hkm.1.1
  rcases scanG_spec d (-1) (r.take k) d.length with ⟨h3,h4⟩ | ⟨b,h3,h4,h5,h6,h7⟩
  · exact (h4 q (by omega) (by omega) (by rw [← hq];exact hkg)).elim
  · rw [h3]
    by_cases hbq:b=q
    · rw [hq,hbq]
    · have l1:=h7 q (by omega) (by omega) (by rw [← hq];exact hkg) (fun h=>hbq h.symm)
      have hbr:(b:Int) ∈ r:=(hm b).2 ⟨by omega,h5⟩
      have hbd:(b:Int) ∈ r.drop (k+1):=by
        rw [hsplit] at hbr
        rcases List.mem_append.1 hbr with h | h
        · exact (h6 h).elim
        · rcases List.mem_cons.1 h with h | h
          · omega
          · exact h
      have l2:=p4 _ hbd
      rw [hq] at l2
      exact (lexR_irr (lexR_trans l1 l2)).elim
theorem sg_inM (d:List Int) (c:Bool) (k:Int) (gone:List Int) (hg:gone.length≤100) (hd:d.length≤100):∀ (m j:Nat),j+m=d.length →
    wp tb (.loop z587l9) { T:=[(0,L d c),(1,I (-1)),(2,I k),(7,O gone),(8,I (scanG d (-1) gone j)),(9,I j)],loc:=[],M:=[] }
      (fun ex st=>ex=.exit 2∧st={ T:=[(0,L d c),(1,I (-1)),(2,I k),(7,O gone),(8,I (scanG d (-1) gone d.length)),(9,I d.length),(18,Bo false)],loc:=[],M:=[] }):=by
  intro m
  induction m with
  | zero =>
    intro j hj
    have h3:j=d.length:=hj
    subst h3
    refine wp_loop ?_
    repeat (first|apply wp_as|apply wp_ss|refine wr (by simp;with_reducible rfl) ?_|refine wq (by simp;with_reducible rfl) ?_|refine wt (by simpa) ?_|refine wf (by simpa) ?_|refine xt (by simpa) ?_|refine xf (by simpa) ?_|apply wp_bs|apply wp_b|refine wp_sr ?_|refine wp_sx ?_|refine wp_ret' ?_|refine wp_skip' ?_|refine wp_exit' ?_)
    exact ⟨rfl,rfl⟩
  | succ m ih =>
    intro j hj
    have e1:=fun cc=>ev_lim (ev_hasInt gone cc (j:Int) (by omega))
    have hjl:j < d.length:=by omega
    have w1:IntKind.i64.wrap ((j:Int)+1)=((j+1:Nat):Int):=wrapS (by omega)
    have hn:=ih (j+1) (by omega)
    rw [scanG] at hn
    have hgj:d.getD j 0=d[j]:=by rw [List.getD_eq_getElem?_getD,List.getElem?_eq_getElem hjl];rfl
    have h1:¬ (j:Int)=-1:=by omega
    by_cases h2:(j:Int) ∈ gone
    · rw [if_neg (fun h=>h.2.1 h2)] at hn
      refine wp_loop ?_
      repeat (first|apply wp_as|apply wp_ss|refine wr (by simp [hjl,h1,e1,h2,w1,Int.ofNat_inj];with_reducible rfl) ?_|refine wq (by simp [hjl,h1,e1,h2,w1,Int.ofNat_inj];with_reducible rfl) ?_|refine wt (by simpa [hjl,h1,e1,h2,w1,Int.ofNat_inj]) ?_|refine wf (by simpa [hjl,h1,e1,h2,w1,Int.ofNat_inj]) ?_|refine xt (by simpa [hjl,h1,e1,h2,w1,Int.ofNat_inj]) ?_|refine xf (by simpa [hjl,h1,e1,h2,w1,Int.ofNat_inj]) ?_|apply wp_bs|apply wp_b|refine wp_sr ?_|refine wp_sx ?_|refine wp_ret' ?_|refine wp_skip' ?_|refine wp_exit' ?_)
      exact hn
    have h1':(j:Int) ≠ -1:=by omega
    rcases scanG_spec d (-1) gone j with ⟨h3,h4⟩ | ⟨b,h3,h4,h5,h6,h7⟩
    · rw [if_pos ⟨h1',h2,.inl (by omega)⟩] at hn
      rw [h3]
      refine wp_loop ?_
      repeat (first|apply wp_as|apply wp_ss|refine wr (by simp [hjl,h1,e1,h2,w1,Int.ofNat_inj];with_reducible rfl) ?_|refine wq (by simp [hjl,h1,e1,h2,w1,Int.ofNat_inj];with_reducible rfl) ?_|refine wt (by simpa [hjl,h1,e1,h2,w1,Int.ofNat_inj]) ?_|refine wf (by simpa [hjl,h1,e1,h2,w1,Int.ofNat_inj]) ?_|refine xt (by simpa [hjl,h1,e1,h2,w1,Int.ofNat_inj]) ?_|refine xf (by simpa [hjl,h1,e1,h2,w1,Int.ofNat_inj]) ?_|apply wp_bs|apply wp_b|refine wp_sr ?_|refine wp_sx ?_|refine wp_ret' ?_|refine wp_skip' ?_|refine wp_exit' ?_)
      exact hn
    · have hbl:b < d.length:=by omega
      have hgb:d.getD b 0=d[b]:=by rw [List.getD_eq_getElem?_getD,List.getElem?_eq_getElem hbl];rfl
      rw [h3,Int.toNat_natCast,hgj,hgb] at hn
      have hb0:¬ (b:Int) < 0:=by omega
      rw [h3]
      by_cases h8:d[b] < d[j]
      · rw [if_pos ⟨h1',h2,.inr h8⟩] at hn
        refine wp_loop ?_
        repeat (first|apply wp_as|apply wp_ss|refine wr (by simp [hjl,hbl,h1,e1,h2,w1,Int.ofNat_inj,hb0,h8];with_reducible rfl) ?_|refine wq (by simp [hjl,hbl,h1,e1,h2,w1,Int.ofNat_inj,hb0,h8];with_reducible rfl) ?_|refine wt (by simpa [hjl,hbl,h1,e1,h2,w1,Int.ofNat_inj,hb0,h8]) ?_|refine wf (by simpa [hjl,hbl,h1,e1,h2,w1,Int.ofNat_inj,hb0,h8]) ?_|refine xt (by simpa [hjl,hbl,h1,e1,h2,w1,Int.ofNat_inj,hb0,h8]) ?_|refine xf (by simpa [hjl,hbl,h1,e1,h2,w1,Int.ofNat_inj,hb0,h8]) ?_|apply wp_bs|apply wp_b|refine wp_sr ?_|refine wp_sx ?_|refine wp_ret' ?_|refine wp_skip' ?_|refine wp_exit' ?_)
        exact hn
      · rw [if_neg (fun h=>by rcases h.2.2 with h | h;exact hb0 h;exact h8 h)] at hn
        refine wp_loop ?_
        repeat (first|apply wp_as|apply wp_ss|refine wr (by simp [hjl,hbl,h1,e1,h2,w1,Int.ofNat_inj,hb0,h8];with_reducible rfl) ?_|refine wq (by simp [hjl,hbl,h1,e1,h2,w1,Int.ofNat_inj,hb0,h8];with_reducible rfl) ?_|refine wt (by simpa [hjl,hbl,h1,e1,h2,w1,Int.ofNat_inj,hb0,h8]) ?_|refine wf (by simpa [hjl,hbl,h1,e1,h2,w1,Int.ofNat_inj,hb0,h8]) ?_|refine xt (by simpa [hjl,hbl,h1,e1,h2,w1,Int.ofNat_inj,hb0,h8]) ?_|refine xf (by simpa [hjl,hbl,h1,e1,h2,w1,Int.ofNat_inj,hb0,h8]) ?_|apply wp_bs|apply wp_b|refine wp_sr ?_|refine wp_sx ?_|refine wp_ret' ?_|refine wp_skip' ?_|refine wp_exit' ?_)
        exact hn
theorem sg_outM (d:List Int) (c:Bool) (hd:d.length≤100) (k:Nat):∀ (m j:Nat),j+m=k→k≤(srtC (gtD d) [] (idxB d.length (-1))).length →
    wp tb (.loop z587l11) { T:=[(0,L d c),(1,I (-1)),(2,I k),(7,O ((srtC (gtD d) [] (idxB d.length (-1))).take j))],loc:=[],M:=[] }
      (fun ex st=>ex=.exit 0∧st={ T:=[(0,L d c),(1,I (-1)),(2,I k),(7,O ((srtC (gtD d) [] (idxB d.length (-1))).take k)),(14,Bo false)],loc:=[],M:=[] }):=by
  have hrl:(srtC (gtD d) [] (idxB d.length (-1))).length=d.length:=by rw [topD_len d _ 0,idxB_all];simp
  intro m
  induction m with
  | zero =>
    intro j hj hk
    have h3:j=k:=hj
    subst h3
    have hl:((srtC (gtD d) [] (idxB d.length (-1))).take j).length=j:=by rw [List.length_take];omega
    generalize (srtC (gtD d) [] (idxB d.length (-1))).take j=t at *
    refine wp_loop ?_
    repeat (first|apply wp_as|apply wp_ss|refine wr (by simp [hl];with_reducible rfl) ?_|refine wq (by simp [hl];with_reducible rfl) ?_|refine wt (by simpa [hl]) ?_|refine wf (by simpa [hl]) ?_|refine xt (by simpa [hl]) ?_|refine xf (by simpa [hl]) ?_|apply wp_bs|apply wp_b|refine wp_sr ?_|refine wp_sx ?_|refine wp_ret' ?_|refine wp_skip' ?_|refine wp_exit' ?_)
    exact ⟨rfl,rfl⟩
  | succ m ih =>
    intro j hj hk
    have hjr:j < (srtC (gtD d) [] (idxB d.length (-1))).length:=by omega
    have hs:=scanG_sortedM hjr
    have ht:(srtC (gtD d) [] (idxB d.length (-1))).take j++[(srtC (gtD d) [] (idxB d.length (-1)))[j]]=(srtC (gtD d) [] (idxB d.length (-1))).take (j+1):=by
      rw [List.take_succ,List.getElem?_eq_getElem hjr];rfl
    have hn:=ih (j+1) (by omega) hk
    have hl:((srtC (gtD d) [] (idxB d.length (-1))).take j).length=j:=by rw [List.length_take];omega
    have hin:=sg_inM d c k ((srtC (gtD d) [] (idxB d.length (-1))).take j) (by omega) hd d.length 0 (by omega)
    rw [hs,scanG] at hin
    rw [← ht] at hn
    generalize (srtC (gtD d) [] (idxB d.length (-1)))[j]=x at *
    generalize (srtC (gtD d) [] (idxB d.length (-1))).take j=t at *
    have hjk:(j:Int) < k:=by omega
    have hjk2:j < k:=by omega
    have hlim:j+1≤274877906944:=by omega
    have hT:t.take j=t:=List.take_of_length_le (by omega)
    refine wp_loop ?_
    repeat (first|apply wp_as|apply wp_ss|refine wr (by simp [hl,hjk,hjk2];with_reducible rfl) ?_|refine wq (by simp [hl,hjk,hjk2];with_reducible rfl) ?_|refine wt (by simpa [hl,hjk,hjk2]) ?_|refine wf (by simpa [hl,hjk,hjk2]) ?_|refine xt (by simpa [hl,hjk,hjk2]) ?_|refine xf (by simpa [hl,hjk,hjk2]) ?_|apply wp_bs|apply wp_b|refine wp_sr ?_|refine wp_sx ?_|refine wp_ret' ?_|refine wp_skip' ?_|refine wp_exit' ?_)
    refine wp_imp hin ?_
    rintro ex st ⟨rfl,rfl⟩
    try simp only [if_true]
    repeat (first|apply wp_as|apply wp_ss|refine wr (by simp [hl,hlim,hT];with_reducible rfl) ?_|refine wq (by simp [hl,hlim,hT];with_reducible rfl) ?_|refine wt (by simpa [hl,hlim,hT]) ?_|refine wf (by simpa [hl,hlim,hT]) ?_|refine xt (by simpa [hl,hlim,hT]) ?_|refine xf (by simpa [hl,hlim,hT]) ?_|apply wp_bs|apply wp_b|refine wp_sr ?_|refine wp_sx ?_|refine wp_ret' ?_|refine wp_skip' ?_|refine wp_exit' ?_)
    exact hn
theorem ev_spec_greatestM (d:List Int) (c:Bool) (hd:d.length≤100) (k:Nat) (hk:k≤d.length) :
    Ev tb zl587 [] [L d c,I (-1),I k] [] ⟨O (topD d (idxB d.length (-1)) k),[],[],[]⟩:=by
  have hrl:(srtC (gtD d) [] (idxB d.length (-1))).length=d.length:=by rw [topD_len d _ 0,idxB_all];simp
  have loop:=sg_outM d c hd k k 0 (by omega) (by omega)
  rw [List.take_zero] at loop
  have ht3:((srtC (gtD d) [] (idxB d.length (-1))).take k).take (min k (srtC (gtD d) [] (idxB d.length (-1))).length)=(srtC (gtD d) [] (idxB d.length (-1))).take k:=List.take_of_length_le (by rw [List.length_take];omega)
  refine call_of_wp zt587 rfl ?_
  repeat (first|apply wp_as|apply wp_ss|refine wr (by simp;with_reducible rfl) ?_|refine wq (by simp;with_reducible rfl) ?_|refine wt (by simpa) ?_|refine wf (by simpa) ?_|refine xt (by simpa) ?_|refine xf (by simpa) ?_|apply wp_bs|apply wp_b|refine wp_sr ?_|refine wp_sx ?_|refine wp_ret' ?_|refine wp_skip' ?_|refine wp_exit' ?_)
  refine wp_imp loop ?_
  rintro ex st ⟨rfl,rfl⟩
  try simp only [if_true]
  repeat (first|apply wp_as|apply wp_ss|refine wr (by simp;with_reducible rfl) ?_|refine wq (by simp;with_reducible rfl) ?_|refine wt (by simpa) ?_|refine wf (by simpa) ?_|refine xt (by simpa) ?_|refine xf (by simpa) ?_|apply wp_bs|apply wp_b|refine wp_sr ?_|refine wp_sx ?_|refine wp_ret' ?_|refine wp_skip' ?_|refine wp_exit' ?_)
  simp [zi587,topD,ht3]
theorem ip_loop (n:Nat) (es:List (Int×Int)) (c:Bool) (hl:es.length≤1000) (K:List Int) (cK:Bool) (hK:K.length≤1000) (P:List (Int×Int)) (hP:P.length≤1000) (hh:∀ e ∈ P,has es e.1 e.2=hasM es e.1 e.2):∀ (m k:Nat),k+m=P.length →
    wp tb (.loop z589l10) { T:=[(1,L K cK),(2,.bptr 0 0 0),(5,O2 P),(6,I k)],loc:=[[I n,L2 es c]],M:=[] }
      (fun ex st=>(ex=.exit 0∧(P.drop k).all (spP es K)=true∧st={ T:=[(1,L K cK),(2,.bptr 0 0 0),(5,O2 P),(6,I P.length),(16,Bo false)],loc:=[[I n,L2 es c]],M:=[] }) ∨
        (ex=.ret∧(P.drop k).all (spP es K)=false∧st={ T:=[(4,Bo false)],loc:=[[I n,L2 es c]],M:=[] })):=by
  intro m
  induction m with
  | zero =>
    intro k hk
    have h3:k=P.length:=hk
    subst h3
    rw [List.drop_length]
    refine wp_loop ?_
    repeat (first|apply wp_as|apply wp_ss|refine wr (by simp;with_reducible rfl) ?_|refine wq (by simp;with_reducible rfl) ?_|refine wt (by simpa) ?_|refine wf (by simpa) ?_|refine xt (by simpa) ?_|refine xf (by simpa) ?_|apply wp_bs|apply wp_b|refine wp_sr ?_|refine wp_sx ?_|refine wp_ret' ?_|refine wp_skip' ?_|refine wp_exit' ?_)
    exact .inl ⟨rfl,rfl,rfl⟩
  | succ m ih =>
    intro k hk
    have hk2:k < P.length:=by omega
    have hd:P.drop k=P[k]::P.drop (k+1):=List.drop_eq_getElem_cons hk2
    have hhk:=hh _ (List.getElem_mem hk2)
    obtain ⟨⟨a,b⟩,hx⟩:∃ s,s=P[k]:=⟨_,rfl⟩
    have hx2:=hx.symm
    rw [hx2] at hhk
    simp only at hhk
    have w1:IntKind.i64.wrap ((k:Int)+1)=((k+1:Nat):Int):=wrapS (by omega)
    have e1a:=fun c=>ev_lim (ev_hasInt K c a (by omega))
    have e1b:=fun c=>ev_lim (ev_hasInt K c b (by omega))
    have e2:=fun c=>ev_lim (ev_hasEdge n es c a b (by omega))
    rw [hhk] at e2
    have hn:=ih (k+1) (by omega)
    rw [hd,← hx,List.all_cons]
    have hsp:spP es K (a,b)=(decide (a ∈ K) != decide (b ∈ K) || hasM es a b == decide (a ∈ K)):=rfl
    rw [hsp]
    clear hsp hhk
    generalize hasM es a b=q at *
    generalize decide (a ∈ K)=p1 at *
    generalize decide (b ∈ K)=p2 at *
    cases p1 <;> cases p2 <;> cases q
    all_goals
      refine wp_loop ?_
      repeat (first|apply wp_as|apply wp_ss|refine wr (by simp [hk2,hx2,e1a,e1b,e2,w1];with_reducible rfl) ?_|refine wq (by simp [hk2,hx2,e1a,e1b,e2,w1];with_reducible rfl) ?_|refine wt (by simpa [hk2,hx2,e1a,e1b,e2,w1]) ?_|refine wf (by simpa [hk2,hx2,e1a,e1b,e2,w1]) ?_|refine xt (by simpa [hk2,hx2,e1a,e1b,e2,w1]) ?_|refine xf (by simpa [hk2,hx2,e1a,e1b,e2,w1]) ?_|apply wp_bs|apply wp_b|refine wp_sr ?_|refine wp_sx ?_|refine wp_ret' ?_|refine wp_skip' ?_|refine wp_exit' ?_)
      first | exact hn | exact .inr ⟨rfl,rfl,rfl⟩
theorem ev_isParts (n:Nat) (es:List (Int×Int)) (c:Bool) (hv:vGraph n es=true) (K:List Int) (cK:Bool) (hK:K.length≤1000):Ev tb zl589 [] [Gr n es c,L K cK] [] ⟨Bo ((prs n).all (spP es K)),[],[],[]⟩:=by
  have hn7:=(vG_iff.1 hv).2.2
  have h21:=vG21 hn7 hv
  have hpl:(prs n).length≤1000:=by have:=prs_le21 n hn7;omega
  have e1:=ev_lim (ev_pairs n (by omega))
  have loop:=ip_loop n es c (by omega) K cK hK (prs n) hpl (fun e he=>has_hasM (vG_iff.1 hv).2.1 e.1 e.2) (prs n).length 0 (by omega)
  rw [show ((0:Nat):Int)=0 from rfl,List.drop_zero] at loop
  generalize prs n=P at *
  refine call_of_wp zt589 rfl ?_
  repeat (first|apply wp_as|apply wp_ss|refine wr (by simp [e1];with_reducible rfl) ?_|refine wq (by simp [e1];with_reducible rfl) ?_|refine wt (by simpa [e1]) ?_|refine wf (by simpa [e1]) ?_|refine xt (by simpa [e1]) ?_|refine xf (by simpa [e1]) ?_|apply wp_bs|apply wp_b|refine wp_sr ?_|refine wp_sx ?_|refine wp_ret' ?_|refine wp_skip' ?_|refine wp_exit' ?_)
  refine wp_imp loop ?_
  rintro ex st (⟨rfl,h,rfl⟩ | ⟨rfl,h,rfl⟩)
  · simp only [if_true]
    rw [h]
    repeat (first|apply wp_as|apply wp_ss|refine wr (by simp;with_reducible rfl) ?_|refine wq (by simp;with_reducible rfl) ?_|refine wt (by simpa) ?_|refine wf (by simpa) ?_|refine xt (by simpa) ?_|refine xf (by simpa) ?_|apply wp_bs|apply wp_b|refine wp_sr ?_|refine wp_sx ?_|refine wp_ret' ?_|refine wp_skip' ?_|refine wp_exit' ?_)
    simp [zi589]
  · rw [h]
    simp [zi589]
theorem ss_loop (n:Nat) (hn:n≤7) (es:List (Int×Int)) (c:Bool) (K:List Int) (hK:K.length≤1000):∀ (m v:Nat) (k s:List Int),v+m=n→k.length≤v→s.length≤v →
    wp tb (.loop z578l15) { T:=[(1,.bptr 0 0 0),(6,O K),(7,O k),(8,O s),(9,I v)],loc:=[[I n,L2 es c]],M:=[] }
      (fun ex st=>ex=.exit 0∧st={ T:=[(1,.bptr 0 0 0),(6,O K),(7,O (k++(rgF n v).filter fun x=>decide (x ∈ K))),(8,O (s++(rgF n v).filter fun x=>!decide (x ∈ K))),(9,I n),(28,Bo false)],loc:=[[I n,L2 es c]],M:=[] }):=by
  intro m
  induction m with
  | zero =>
    intro v k s hv hk hs
    have h3:v=n:=hv
    subst h3
    rw [rgF_end,List.filter_nil,List.filter_nil,List.append_nil,List.append_nil]
    refine wp_loop ?_
    repeat (first|apply wp_as|apply wp_ss|refine wr (by simp;with_reducible rfl) ?_|refine wq (by simp;with_reducible rfl) ?_|refine wt (by simpa) ?_|refine wf (by simpa) ?_|refine xt (by simpa) ?_|refine xf (by simpa) ?_|apply wp_bs|apply wp_b|refine wp_sr ?_|refine wp_sx ?_|refine wp_ret' ?_|refine wp_skip' ?_|refine wp_exit' ?_)
    exact ⟨rfl,rfl⟩
  | succ m ih =>
    intro v k s hv hk hs
    have hvn:v < n:=by omega
    have w1:IntKind.i64.wrap ((v:Int)+1)=((v+1:Nat):Int):=wrapS (by omega)
    have e1:=fun c=>ev_lim (ev_hasInt K c (v:Int) (by omega))
    have hkl:k.length+1≤274877906944:=by omega
    have hsl:s.length+1≤274877906944:=by omega
    have hT:∀ (l:List Int) z,List.take (l.length+1) (l++[z])=l++[z]:=fun l z=>List.take_of_length_le (by simp)
    have hT2:∀ l:List Int,List.take l.length l=l:=fun l=>List.take_of_length_le (Nat.le_refl _)
    rw [rgF_cons hvn]
    cases hq:decide ((v:Int) ∈ K) with
    | true =>
      rw [hq] at e1
      rw [List.filter_cons_of_pos (by rw [hq]),List.filter_cons_of_neg (by rw [hq];simp)]
      have hn2:=ih (v+1) (k++[(v:Int)]) s (by omega) (by simp;omega) (by omega)
      rw [List.append_assoc,List.cons_append,List.nil_append] at hn2
      refine wp_loop ?_
      repeat (first|apply wp_as|apply wp_ss|refine wr (by simp [hvn,e1,w1,hkl,hT,hT2];with_reducible rfl) ?_|refine wq (by simp [hvn,e1,w1,hkl,hT,hT2];with_reducible rfl) ?_|refine wt (by simpa [hvn,e1,w1,hkl,hT,hT2]) ?_|refine wf (by simpa [hvn,e1,w1,hkl,hT,hT2]) ?_|refine xt (by simpa [hvn,e1,w1,hkl,hT,hT2]) ?_|refine xf (by simpa [hvn,e1,w1,hkl,hT,hT2]) ?_|apply wp_bs|apply wp_b|refine wp_sr ?_|refine wp_sx ?_|refine wp_ret' ?_|refine wp_skip' ?_|refine wp_exit' ?_)
      exact hn2
    | false =>
      rw [hq] at e1
      rw [List.filter_cons_of_neg (by rw [hq];simp),List.filter_cons_of_pos (by rw [hq];rfl)]
      have hn2:=ih (v+1) k (s++[(v:Int)]) (by omega) (by omega) (by simp;omega)
      rw [List.append_assoc,List.cons_append,List.nil_append] at hn2
      refine wp_loop ?_
      repeat (first|apply wp_as|apply wp_ss|refine wr (by simp [hvn,e1,w1,hsl,hT,hT2];with_reducible rfl) ?_|refine wq (by simp [hvn,e1,w1,hsl,hT,hT2];with_reducible rfl) ?_|refine wt (by simpa [hvn,e1,w1,hsl,hT,hT2]) ?_|refine wf (by simpa [hvn,e1,w1,hsl,hT,hT2]) ?_|refine xt (by simpa [hvn,e1,w1,hsl,hT,hT2]) ?_|refine xf (by simpa [hvn,e1,w1,hsl,hT,hT2]) ?_|apply wp_bs|apply wp_b|refine wp_sr ?_|refine wp_sx ?_|refine wp_ret' ?_|refine wp_skip' ?_|refine wp_exit' ?_)
      exact hn2
theorem spA_eq {n:Nat} {K:List Int} (hn:K.Nodup) (hb:∀ x ∈ K,0≤x∧x < n):spA K=(rgF n 0).filter fun x=>decide (x ∈ K):=by
  have h1:=asc_ok K [] .nil
  have hpw:((rgF n 0).filter fun x=>decide (x ∈ K)).Pairwise (fun a b:Int=>a < b):=by
    rw [rgF_all];exact List.Pairwise.filter _ (idxB_pw n)
  have hp:(spA K).Perm ((rgF n 0).filter fun x=>decide (x ∈ K)):=by
    have h2:(spA K).Perm K:=by simpa using h1.2
    refine h2.trans ((List.perm_ext_iff_of_nodup hn (hpw.imp fun h=>by omega)).2 fun x=>?_)
    rw [List.mem_filter,rgF_all,mem_idxB,decide_eq_true_eq]
    exact ⟨fun h=>⟨hb x h,h⟩,fun h=>h.2⟩
  exact List.Perm.eq_of_pairwise (le:=fun a b=>a≤b) (fun a b _ _ h1 h2=>by omega) h1.1 (hpw.imp fun h=>by omega) hp
theorem spO_eq {n:Nat} {K:List Int}:spO n (spA K)=(rgF n 0).filter fun x=>!decide (x ∈ K):=by
  rw [spO,rgF_all]
  refine List.filter_congr fun x _=>?_
  simp only [spA_mem]
set_option maxHeartbeats 4000000 in
theorem ev_spec_SplitParts (n:Nat) (es:List (Int×Int)) (c:Bool) (hv:vGraph n es=true):Ev tb zl578 [] [Gr n es c] [] ⟨SPR n es,[],[],[]⟩:=by
  have hn7:=(vG_iff.1 hv).2.2
  have h21:=vG21 hn7 hv
  have hin:EdgesIn n es:=fun e he=>by have:=mem_prs.1 ((vG_iff.1 hv).2.1 e he);omega
  have v1:=fun c=>ev_lim (ev_validGraph n es c (by omega))
  rw [hv] at v1
  have e1:=fun c=>ev_lim (ev_degrees n es c (by omega) (by omega) hin)
  have hdl:(degs n es).length=n:=degs_len n es
  have e2:=fun c=>ev_lim (ev_durfee (degs n es) c (by omega))
  have hdm:=durf_le (fall (degs n es))
  rw [fall_len] at hdm
  have e3:=fun c=>ev_lim (ev_spec_greatestM (degs n es) c (by omega) (durf (fall (degs n es))) hdm)
  rw [show topD (degs n es) (idxB (degs n es).length (-1)) (durf (fall (degs n es)))=spK (degs n es) from rfl] at e3
  have hkl:=spK_len (degs n es)
  have e4:=fun c cK=>ev_lim (ev_isParts n es c hv (spK (degs n es)) cK (by omega))
  rw [show (prs n).all (spP es (spK (degs n es)))=spOK n es from rfl] at e4
  have loop:=ss_loop n hn7 es c (spK (degs n es)) (by omega) n 0 [] [] (by omega) (by simp) (by simp)
  rw [show ((0:Nat):Int)=0 from rfl] at loop
  simp only [List.nil_append] at loop
  have hmem:∀ x ∈ spK (degs n es),0≤x∧x < (n:Int):=fun x hx=>by have:=spK_mem hx;rw [hdl] at this;exact this
  rw [← spA_eq (spK_nd (degs n es)) hmem,← spO_eq] at loop
  simp only [SPR]
  have tk:∀ l:List Int,List.take l.length l=l:=fun l=>List.take_of_length_le (Nat.le_refl _)
  generalize spO n (spA (spK (degs n es)))=Q at *
  generalize spA (spK (degs n es))=KA at *
  generalize spK (degs n es)=K at *
  generalize durf (fall (degs n es))=dm at *
  generalize degs n es=D at *
  cases hok:spOK n es with
  | false =>
    rw [hok] at e4
    refine call_of_wp zt578 rfl ?_
    repeat (first|apply wp_as|apply wp_ss|refine wr (by simp [v1,e1,e2,e3,e4];with_reducible rfl) ?_|refine wq (by simp [v1,e1,e2,e3,e4];with_reducible rfl) ?_|refine wt (by simpa [v1,e1,e2,e3,e4]) ?_|refine wf (by simpa [v1,e1,e2,e3,e4]) ?_|refine xt (by simpa [v1,e1,e2,e3,e4]) ?_|refine xf (by simpa [v1,e1,e2,e3,e4]) ?_|apply wp_bs|apply wp_b|refine wp_sr ?_|refine wp_sx ?_|refine wp_ret' ?_|refine wp_skip' ?_|refine wp_exit' ?_)
    simp [zi578]
  | true =>
    rw [hok] at e4
    refine call_of_wp zt578 rfl ?_
    repeat (first|apply wp_as|apply wp_ss|refine wr (by simp [v1,e1,e2,e3,e4];with_reducible rfl) ?_|refine wq (by simp [v1,e1,e2,e3,e4];with_reducible rfl) ?_|refine wt (by simpa [v1,e1,e2,e3,e4]) ?_|refine wf (by simpa [v1,e1,e2,e3,e4]) ?_|refine xt (by simpa [v1,e1,e2,e3,e4]) ?_|refine xf (by simpa [v1,e1,e2,e3,e4]) ?_|apply wp_bs|apply wp_b|refine wp_sr ?_|refine wp_sx ?_|refine wp_ret' ?_|refine wp_skip' ?_|refine wp_exit' ?_)
    refine wp_imp loop ?_
    rintro ex st ⟨rfl,rfl⟩
    simp only [if_true]
    repeat (first|apply wp_as|apply wp_ss|refine wr (by simp;with_reducible rfl) ?_|refine wq (by simp;with_reducible rfl) ?_|refine wt (by simpa) ?_|refine wf (by simpa) ?_|refine xt (by simpa) ?_|refine xf (by simpa) ?_|apply wp_bs|apply wp_b|refine wp_sr ?_|refine wp_sx ?_|refine wp_ret' ?_|refine wp_skip' ?_|refine wp_exit' ?_)
    simp [zi578,tk]
end Go.Idl
namespace Go.Idl
open Go
theorem ev_SplitParts_no (n:Int) (es:List (Int×Int)) (c:Bool) (hf:Fit es) (hl:es.length≤2000000) (hv:vGraph n es=false):Ev tb zl515 [] [Gr n es c] [] ⟨.tup [Z,Z,Bo false],[],[],[]⟩:=by
  have v1:=fun c=>ev_lim (ev_ValidGraph n es c hf (by omega))
  rw [hv] at v1
  refine call_of_wp zt515 rfl ?_
  repeat (first|apply wp_as|apply wp_ss|refine wr (by simp [v1];with_reducible rfl) ?_|refine wq (by simp [v1];with_reducible rfl) ?_|refine wt (by simpa [v1]) ?_|refine wf (by simpa [v1]) ?_|refine xt (by simpa [v1]) ?_|refine xf (by simpa [v1]) ?_|apply wp_bs|apply wp_b|refine wp_sr ?_|refine wp_sx ?_|refine wp_ret' ?_|refine wp_skip' ?_|refine wp_exit' ?_)
  simp [zi515]
theorem ev_spec_SplitParts_no (n:Int) (es:List (Int×Int)) (c:Bool) (hl:es.length≤2000000) (hv:vGraph n es=false):Ev tb zl578 [] [Gr n es c] [] ⟨.tup [Z,Z,Bo false],[],[],[]⟩:=by
  have v1:=fun c=>ev_lim (ev_validGraph n es c (by omega))
  rw [hv] at v1
  refine call_of_wp zt578 rfl ?_
  repeat (first|apply wp_as|apply wp_ss|refine wr (by simp [v1];with_reducible rfl) ?_|refine wq (by simp [v1];with_reducible rfl) ?_|refine wt (by simpa [v1]) ?_|refine wf (by simpa [v1]) ?_|refine xt (by simpa [v1]) ?_|refine xf (by simpa [v1]) ?_|apply wp_bs|apply wp_b|refine wp_sr ?_|refine wp_sx ?_|refine wp_ret' ?_|refine wp_skip' ?_|refine wp_exit' ?_)
  simp [zi578]
end Go.Idl
namespace Go.Idl
open Go
theorem ev_eqIntS_Z:Ev tb zl233 [] [Z,Z] [] ⟨Bo true,[],[],[]⟩:=by
  refine call_of_wp zt233 rfl ?_
  repeat (first|apply wp_as|apply wp_ss|refine wr (by simp;with_reducible rfl) ?_|refine wq (by simp;with_reducible rfl) ?_|refine wt (by simpa) ?_|refine wf (by simpa) ?_|refine xt (by simpa) ?_|refine xf (by simpa) ?_|apply wp_bs|apply wp_b|refine wp_sr ?_|refine wp_sx ?_|refine wp_ret' ?_|refine wp_skip' ?_|refine wp_exit' ?_)
  refine wp_loop ?_
  repeat (first|apply wp_as|apply wp_ss|refine wr (by simp;with_reducible rfl) ?_|refine wq (by simp;with_reducible rfl) ?_|refine wt (by simpa) ?_|refine wf (by simpa) ?_|refine xt (by simpa) ?_|refine xf (by simpa) ?_|apply wp_bs|apply wp_b|refine wp_sr ?_|refine wp_sx ?_|refine wp_ret' ?_|refine wp_skip' ?_|refine wp_exit' ?_)
  simp [zi233]
theorem ev_markIntS_Z (k:Int):Ev tb zl243 [] [Z,I k] [] ⟨I k,[],[],[]⟩:=by
  refine call_of_wp zt243 rfl ?_
  repeat (first|apply wp_as|apply wp_ss|refine wr (by simp;with_reducible rfl) ?_|refine wq (by simp;with_reducible rfl) ?_|refine wt (by simpa) ?_|refine wf (by simpa) ?_|refine xt (by simpa) ?_|refine xf (by simpa) ?_|apply wp_bs|apply wp_b|refine wp_sr ?_|refine wp_sx ?_|refine wp_ret' ?_|refine wp_skip' ?_|refine wp_exit' ?_)
  refine wp_loop ?_
  repeat (first|apply wp_as|apply wp_ss|refine wr (by simp;with_reducible rfl) ?_|refine wq (by simp;with_reducible rfl) ?_|refine wt (by simpa) ?_|refine wf (by simpa) ?_|refine xt (by simpa) ?_|refine xf (by simpa) ?_|apply wp_bs|apply wp_b|refine wp_sr ?_|refine wp_sx ?_|refine wp_ret' ?_|refine wp_skip' ?_|refine wp_exit' ?_)
  simp [zi243]
theorem ev_heldIntS_Z (k:Int):Ev tb zl241 [] [Z,I k] [] ⟨I k,[],[],[]⟩:=by
  refine call_of_wp zt241 rfl ?_
  repeat (first|apply wp_as|apply wp_ss|refine wr (by simp;with_reducible rfl) ?_|refine wq (by simp;with_reducible rfl) ?_|refine wt (by simpa) ?_|refine wf (by simpa) ?_|refine xt (by simpa) ?_|refine xf (by simpa) ?_|apply wp_bs|apply wp_b|refine wp_sr ?_|refine wp_sx ?_|refine wp_ret' ?_|refine wp_skip' ?_|refine wp_exit' ?_)
  refine wp_loop ?_
  repeat (first|apply wp_as|apply wp_ss|refine wr (by simp;with_reducible rfl) ?_|refine wq (by simp;with_reducible rfl) ?_|refine wt (by simpa) ?_|refine wf (by simpa) ?_|refine xt (by simpa) ?_|refine xf (by simpa) ?_|apply wp_bs|apply wp_b|refine wp_sr ?_|refine wp_sx ?_|refine wp_ret' ?_|refine wp_skip' ?_|refine wp_exit' ?_)
  simp [zi241]
set_option maxHeartbeats 8000000 in
theorem ev_FnExactSplitParts (n:Int) (es:List (Int×Int)) (c:Bool) (hf:Fit es) (hb:es.length < 9223372036854775808) :
    Ev tb zl529 [] [Gr n es c] [] ⟨Bo true,[],[],[]⟩:=by
  by_cases hc:(1048576:Int) < es.length
  · have s1:=fun c=>ev_lim (ev_szGraph_no n es c 1048576 hc (by omega) hb)
    refine call_of_wp zt529 rfl ?_
    repeat (first|apply wp_as|apply wp_ss|refine wr (by simp [s1];with_reducible rfl) ?_|refine wq (by simp [s1];with_reducible rfl) ?_|refine wt (by simpa [s1]) ?_|refine wf (by simpa [s1]) ?_|refine xt (by simpa [s1]) ?_|refine xf (by simpa [s1]) ?_|apply wp_bs|apply wp_b|refine wp_sr ?_|refine wp_sx ?_|refine wp_ret' ?_|refine wp_skip' ?_|refine wp_exit' ?_)
    simp [zi529]
  have s1:=fun c=>ev_lim (ev_szGraph_ok n es c 1048576 (by omega) (by omega))
  have h8:¬ (1048576 - (es.length:Int) < 0):=by omega
  have t1:=fun c=>ev_lim (ev_toGraph n es c (by omega))
  have q1:=fun c d=>ev_lim (ev_eqGraph n es c d (by omega))
  have m1:=ev_lim (ev_markGraph n es 1 (by omega) (by omega))
  have h0:¬ (1+2 * (es.length:Int) < 0):=by omega
  have hs1:=mrk2_sc 1 es.length
  have no:(∀ c,limF tb zl515 [] [Gr n es c] []=some ⟨.tup [Z,Z,Bo false],[],[],[]⟩)→(∀ c,limF tb zl578 [] [Gr n es c] []=some ⟨.tup [Z,Z,Bo false],[],[],[]⟩) →
      Ev tb zl529 [] [Gr n es c] [] ⟨Bo true,[],[],[]⟩:=by
    intro e2 e3
    have ez:=ev_lim ev_eqIntS_Z
    have m2:=ev_lim (ev_markIntS_Z 1)
    have m3:=ev_lim (ev_heldIntS_Z 1)
    refine call_of_wp zt529 rfl ?_
    repeat (first|apply wp_as|apply wp_ss|refine wr (by simp [s1,h8,t1,q1,m1,h0,hs1,e2,e3,ez,m2,m3];with_reducible rfl) ?_|refine wq (by simp [s1,h8,t1,q1,m1,h0,hs1,e2,e3,ez,m2,m3];with_reducible rfl) ?_|refine wt (by simpa [s1,h8,t1,q1,m1,h0,hs1,e2,e3,ez,m2,m3]) ?_|refine wf (by simpa [s1,h8,t1,q1,m1,h0,hs1,e2,e3,ez,m2,m3]) ?_|refine xt (by simpa [s1,h8,t1,q1,m1,h0,hs1,e2,e3,ez,m2,m3]) ?_|refine xf (by simpa [s1,h8,t1,q1,m1,h0,hs1,e2,e3,ez,m2,m3]) ?_|apply wp_bs|apply wp_b|refine wp_sr ?_|refine wp_sx ?_|refine wp_ret' ?_|refine wp_skip' ?_|refine wp_exit' ?_)
    refine wp_ra (by simp [t1,q1];with_reducible rfl) (by simp;with_reducible rfl) ?_ ?_
    · intro p hp
      simp only [List.mem_cons,List.not_mem_nil,or_false] at hp
      subst hp
      exact ⟨_,by simp [t1,q1];with_reducible rfl,by simp⟩
    repeat (first|apply wp_as|apply wp_ss|refine wr (by simp [s1,h8,t1,q1,m1,h0,hs1,e2,e3,ez,m2,m3];with_reducible rfl) ?_|refine wq (by simp [s1,h8,t1,q1,m1,h0,hs1,e2,e3,ez,m2,m3];with_reducible rfl) ?_|refine wt (by simpa [s1,h8,t1,q1,m1,h0,hs1,e2,e3,ez,m2,m3]) ?_|refine wf (by simpa [s1,h8,t1,q1,m1,h0,hs1,e2,e3,ez,m2,m3]) ?_|refine xt (by simpa [s1,h8,t1,q1,m1,h0,hs1,e2,e3,ez,m2,m3]) ?_|refine xf (by simpa [s1,h8,t1,q1,m1,h0,hs1,e2,e3,ez,m2,m3]) ?_|apply wp_bs|apply wp_b|refine wp_sr ?_|refine wp_sx ?_|refine wp_ret' ?_|refine wp_skip' ?_|refine wp_exit' ?_)
    simp [zi529]
  cases hv:vGraph n es with
  | false=>exact no (fun c=>ev_lim (ev_SplitParts_no n es c hf (by omega) hv)) (fun c=>ev_lim (ev_spec_SplitParts_no n es c (by omega) hv))
  | true =>
  have hn:=vG_n hv
  obtain ⟨n,rfl⟩:=Int.eq_ofNat_of_zero_le hn.1
  have hn7:=(vG_iff.1 hv).2.2
  have e2:=fun c=>ev_lim (ev_SplitParts n es c hv)
  have e3:=fun c=>ev_lim (ev_spec_SplitParts n es c hv)
  cases hok:spOK n es with
  | false =>
    simp only [SPR,hok,Bool.false_eq_true,if_false] at e2 e3
    exact no e2 e3
  | true =>
    simp only [SPR,hok,if_true] at e2 e3
    have hdl:(degs n es).length=n:=degs_len n es
    have hmem:∀ x ∈ spK (degs n es),0≤x∧x < (n:Int):=fun x hx=>by have:=spK_mem hx;rw [hdl] at this;exact this
    have hAe:=spA_eq (spK_nd (degs n es)) hmem
    have hOe:spO n (spA (spK (degs n es)))=_:=spO_eq
    have hcnt:(spA (spK (degs n es))).length+(spO n (spA (spK (degs n es)))).length=n:=by
      rw [hOe,hAe,filter_len];simp [rgF]
    generalize spO n (spA (spK (degs n es)))=B at *
    generalize spA (spK (degs n es))=A at *
    have ea:=fun c d=>ev_lim (ev_eqIntS A c d (by omega))
    have eb:=fun c d=>ev_lim (ev_eqIntS B c d (by omega))
    have ma:=ev_lim (ev_markIntS A 1 (by omega) (by omega))
    have mb:=ev_lim (ev_markIntS B (1+(A.length:Int)) (by omega) (by omega))
    have ha:=fun c=>ev_lim (ev_heldIntS 1 A.length c (by omega) (by omega))
    have hb':=fun c=>ev_lim (ev_heldIntS (1+(A.length:Int)) B.length c (by omega) (by omega))
    have h6:¬ (1+(A.length:Int) < 0):=by omega
    have h5:¬ (1+(A.length:Int)+(B.length:Int) < 0):=by omega
    have sa:=mrk_sc 1 A.length
    have sb:=mrk_sc (1+(A.length:Int)) B.length
    refine call_of_wp zt529 rfl ?_
    repeat (first|apply wp_as|apply wp_ss|refine wr (by simp [s1,h8,t1,q1,m1,h0,hs1,e2,e3,ea,eb];with_reducible rfl) ?_|refine wq (by simp [s1,h8,t1,q1,m1,h0,hs1,e2,e3,ea,eb];with_reducible rfl) ?_|refine wt (by simpa [s1,h8,t1,q1,m1,h0,hs1,e2,e3,ea,eb]) ?_|refine wf (by simpa [s1,h8,t1,q1,m1,h0,hs1,e2,e3,ea,eb]) ?_|refine xt (by simpa [s1,h8,t1,q1,m1,h0,hs1,e2,e3,ea,eb]) ?_|refine xf (by simpa [s1,h8,t1,q1,m1,h0,hs1,e2,e3,ea,eb]) ?_|apply wp_bs|apply wp_b|refine wp_sr ?_|refine wp_sx ?_|refine wp_ret' ?_|refine wp_skip' ?_|refine wp_exit' ?_)
    refine wp_ra (by simp [t1,q1];with_reducible rfl) (by simp;with_reducible rfl) ?_ ?_
    · intro p hp
      simp only [List.mem_cons,List.not_mem_nil,or_false] at hp
      subst hp
      exact ⟨_,by simp [t1,q1];with_reducible rfl,by simp⟩
    repeat (first|apply wp_as|apply wp_ss|refine wr (by simp [s1,h8,t1,q1,m1,h0,hs1,e2,e3,ea,eb,ma,mb,ha,hb',h6,h5,sa,sb,mrk_len,mrk_take];with_reducible rfl) ?_|refine wq (by simp [s1,h8,t1,q1,m1,h0,hs1,e2,e3,ea,eb,ma,mb,ha,hb',h6,h5,sa,sb,mrk_len,mrk_take];with_reducible rfl) ?_|refine wt (by simpa [s1,h8,t1,q1,m1,h0,hs1,e2,e3,ea,eb,ma,mb,ha,hb',h6,h5,sa,sb,mrk_len,mrk_take]) ?_|refine wf (by simpa [s1,h8,t1,q1,m1,h0,hs1,e2,e3,ea,eb,ma,mb,ha,hb',h6,h5,sa,sb,mrk_len,mrk_take]) ?_|refine xt (by simpa [s1,h8,t1,q1,m1,h0,hs1,e2,e3,ea,eb,ma,mb,ha,hb',h6,h5,sa,sb,mrk_len,mrk_take]) ?_|refine xf (by simpa [s1,h8,t1,q1,m1,h0,hs1,e2,e3,ea,eb,ma,mb,ha,hb',h6,h5,sa,sb,mrk_len,mrk_take]) ?_|apply wp_bs|apply wp_b|refine wp_sr ?_|refine wp_sx ?_|refine wp_ret' ?_|refine wp_skip' ?_|refine wp_exit' ?_)
    simp [zi529]
end Go.Idl
