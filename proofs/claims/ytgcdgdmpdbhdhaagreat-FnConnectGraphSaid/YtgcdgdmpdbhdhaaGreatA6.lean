/- Part 6 of a proof by an ideal interpreter of the code: its definitions and lemmas. Conditions: none. -/
import Derived.KernelRfl
import Derived.Test.YtgcdgdmpdbhdhaaGreatA5
set_option linter.all false
set_option linter.unusedVariables false
set_option linter.unusedSimpArgs false
namespace Go.Idl
open Go
def Qh8 (X:List (Int×Int)) (lo hi:Nat) (x:Int×Int):Prop:=∀ k e,lo≤k→k < hi→X[k]? = some e→Qan e x=true
def Qd4 (X:List (Int×Int)) (lo hi:Nat) (x:Int×Int):Prop:=∀ k e,lo≤k→k < hi→X[k]? = some e→Qan e x=false
theorem Qd4.cons {X:List (Int×Int)} {lo hi:Nat} {x:Int×Int} (h:Qd4 X (lo+1) hi x) (hl:lo < X.length) (hb:Qan X[lo] x=false):Qd4 X lo hi x:=fun k e h1 h2 he=>by
 by_cases hk:k=lo
 · subst hk
   rw [List.getElem?_eq_getElem hl] at he
   cases he;exact hb
 · exact h k e (by omega) h2 he
theorem Jhl (X:List (Int×Int)) (hX:∀ x ∈ X,DE x) (hl:X.length≤1000000) (a j:Nat) (ha:a < X.length) (hj:j < X.length) (M:List Qac):∀ (m i:Nat),i+m=j+1 →
 wp tb (.loop Jdu) { T:=[(0,O2 X),(1,I a),(4,fcE),(12,I i),(13,I j)],loc:=[],M:=M }
  (fun ex st=>ex=.exit 0∧∃ i':Nat,(i≤i'∧i'≤j+1∧Qh8 X i i' X[a]∧(∀ h:i'≤j,Qan (X[i']'(by omega)) X[a]=false)) ∧
    st={ T:=[(0,O2 X),(1,I a),(4,fcE),(12,I i'),(13,I j),(47,Bo false)],loc:=[],M:=M }):=by
 intro m
 induction m with
 | zero =>
   intro i hi
   have h1:¬ i≤j:=by omega
   have h2:¬ (i:Int)≤j:=by omega
   refine wW ?_
   repeat (first|apply wA|apply wS|refine wr (by simp [h1,h2];with_reducible rfl) ?_|refine wq (by simp [h1,h2];with_reducible rfl) ?_|refine wt (by simpa [h1,h2]) ?_|refine wf (by simpa [h1,h2]) ?_|refine xt (by simpa [h1,h2]) ?_|refine xf (by simpa [h1,h2]) ?_|apply wB|apply Qab|refine wX ?_|refine wY ?_|refine wR ?_|refine wK ?_|refine wE ?_)
   exact ⟨rfl,i,⟨Nat.le_refl _,by omega,fun k e k1 k2 _=>by omega,fun h=>absurd h h1⟩,rfl⟩
 | succ m ih =>
   intro i hi
   have h1:i≤j:=by omega
   have h2:(i:Int)≤j:=by omega
   have hi2:i < X.length:=by omega
   have w1:IntKind.i64.wrap ((i:Int)+1)=((i+1:Nat):Int):=Qbg (by omega)
   have hb:=Qb1 X[i] X[a]
   have e1:=fun M=>Qaa (Qer (hX _ (List.getElem_mem hi2)) (hX _ (List.getElem_mem ha)) M)
   by_cases hc:Qnb X[i] X[a] < 0
   · have hbt:Qan X[i] X[a]=true:=by rw [← hb];exact decide_eq_true hc
     refine wW ?_
     repeat (first|apply wA|apply wS|refine wr (by simp [h1,h2,hi2,ha,e1,hc,w1];with_reducible rfl) ?_|refine wq (by simp [h1,h2,hi2,ha,e1,hc,w1];with_reducible rfl) ?_|refine wt (by simpa [h1,h2,hi2,ha,e1,hc,w1]) ?_|refine wf (by simpa [h1,h2,hi2,ha,e1,hc,w1]) ?_|refine xt (by simpa [h1,h2,hi2,ha,e1,hc,w1]) ?_|refine xf (by simpa [h1,h2,hi2,ha,e1,hc,w1]) ?_|apply wB|apply Qab|refine wX ?_|refine wY ?_|refine wR ?_|refine wK ?_|refine wE ?_)
     refine Qah (ih (i+1) (by omega)) ?_
     rintro ex st ⟨rfl,i',⟨k1,k2,k3,k4⟩,rfl⟩
     refine ⟨rfl,i',⟨by omega,k2,fun k e q1 q2 q3=>?_,k4⟩,rfl⟩
     by_cases hk:k=i
     · subst hk
       rw [List.getElem?_eq_getElem hi2] at q3
       cases q3;exact hbt
     · exact k3 k e (by omega) q2 q3
   · have hbt:Qan X[i] X[a]=false:=by rw [← hb];exact decide_eq_false hc
     refine wW ?_
     repeat (first|apply wA|apply wS|refine wr (by simp [h1,h2,hi2,ha,e1,hc,w1];with_reducible rfl) ?_|refine wq (by simp [h1,h2,hi2,ha,e1,hc,w1];with_reducible rfl) ?_|refine wt (by simpa [h1,h2,hi2,ha,e1,hc,w1]) ?_|refine wf (by simpa [h1,h2,hi2,ha,e1,hc,w1]) ?_|refine xt (by simpa [h1,h2,hi2,ha,e1,hc,w1]) ?_|refine xf (by simpa [h1,h2,hi2,ha,e1,hc,w1]) ?_|apply wB|apply Qab|refine wX ?_|refine wY ?_|refine wR ?_|refine wK ?_|refine wE ?_)
     exact ⟨rfl,i,⟨Nat.le_refl _,by omega,fun k e k1 k2 _=>by omega,fun _=>hbt⟩,rfl⟩
theorem Qvh (X:List (Int×Int)) (hX:∀ x ∈ X,DE x) (hl:X.length≤1000000) (a j:Nat) (ha:a < X.length) (hj:j < X.length) (M:List Qac):∀ (m i:Nat),i+m=j+1 →
 wp tb (.loop Qyq) { T:=[(0,O2 X),(1,I a),(4,fcE),(12,I i),(13,I j)],loc:=[],M:=M }
  (fun ex st=>ex=.exit 6∧∃ i':Nat,(i≤i'∧i'≤j+1∧Qh8 X i i' X[a]∧(∀ h:i'≤j,Qan (X[i']'(by omega)) X[a]=false)) ∧
    st={ T:=[(0,O2 X),(1,I a),(4,fcE),(12,I i'),(13,I j),(120,Bo false)],loc:=[],M:=M }):=by
 intro m
 induction m with
 | zero =>
   intro i hi
   have h1:¬ i≤j:=by omega
   have h2:¬ (i:Int)≤j:=by omega
   refine wW ?_
   repeat (first|apply wA|apply wS|refine wr (by simp [h1,h2];with_reducible rfl) ?_|refine wq (by simp [h1,h2];with_reducible rfl) ?_|refine wt (by simpa [h1,h2]) ?_|refine wf (by simpa [h1,h2]) ?_|refine xt (by simpa [h1,h2]) ?_|refine xf (by simpa [h1,h2]) ?_|apply wB|apply Qab|refine wX ?_|refine wY ?_|refine wR ?_|refine wK ?_|refine wE ?_)
   exact ⟨rfl,i,⟨Nat.le_refl _,by omega,fun k e k1 k2 _=>by omega,fun h=>absurd h h1⟩,rfl⟩
 | succ m ih =>
   intro i hi
   have h1:i≤j:=by omega
   have h2:(i:Int)≤j:=by omega
   have hi2:i < X.length:=by omega
   have w1:IntKind.i64.wrap ((i:Int)+1)=((i+1:Nat):Int):=Qbg (by omega)
   have hb:=Qb1 X[i] X[a]
   have e1:=fun M=>Qaa (Qer (hX _ (List.getElem_mem hi2)) (hX _ (List.getElem_mem ha)) M)
   by_cases hc:Qnb X[i] X[a] < 0
   · have hbt:Qan X[i] X[a]=true:=by rw [← hb];exact decide_eq_true hc
     refine wW ?_
     repeat (first|apply wA|apply wS|refine wr (by simp [h1,h2,hi2,ha,e1,hc,w1];with_reducible rfl) ?_|refine wq (by simp [h1,h2,hi2,ha,e1,hc,w1];with_reducible rfl) ?_|refine wt (by simpa [h1,h2,hi2,ha,e1,hc,w1]) ?_|refine wf (by simpa [h1,h2,hi2,ha,e1,hc,w1]) ?_|refine xt (by simpa [h1,h2,hi2,ha,e1,hc,w1]) ?_|refine xf (by simpa [h1,h2,hi2,ha,e1,hc,w1]) ?_|apply wB|apply Qab|refine wX ?_|refine wY ?_|refine wR ?_|refine wK ?_|refine wE ?_)
     refine Qah (ih (i+1) (by omega)) ?_
     rintro ex st ⟨rfl,i',⟨k1,k2,k3,k4⟩,rfl⟩
     refine ⟨rfl,i',⟨by omega,k2,fun k e q1 q2 q3=>?_,k4⟩,rfl⟩
     by_cases hk:k=i
     · subst hk
       rw [List.getElem?_eq_getElem hi2] at q3
       cases q3;exact hbt
     · exact k3 k e (by omega) q2 q3
   · have hbt:Qan X[i] X[a]=false:=by rw [← hb];exact decide_eq_false hc
     refine wW ?_
     repeat (first|apply wA|apply wS|refine wr (by simp [h1,h2,hi2,ha,e1,hc,w1];with_reducible rfl) ?_|refine wq (by simp [h1,h2,hi2,ha,e1,hc,w1];with_reducible rfl) ?_|refine wt (by simpa [h1,h2,hi2,ha,e1,hc,w1]) ?_|refine wf (by simpa [h1,h2,hi2,ha,e1,hc,w1]) ?_|refine xt (by simpa [h1,h2,hi2,ha,e1,hc,w1]) ?_|refine xf (by simpa [h1,h2,hi2,ha,e1,hc,w1]) ?_|apply wB|apply Qab|refine wX ?_|refine wY ?_|refine wR ?_|refine wK ?_|refine wE ?_)
     exact ⟨rfl,i,⟨Nat.le_refl _,by omega,fun k e k1 k2 _=>by omega,fun _=>hbt⟩,rfl⟩
theorem Jeo (X:List (Int×Int)) (hX:∀ x ∈ X,DE x) (hl:X.length≤1000000) (a i:Nat) (ha:a < X.length) (h0:0 < i) (M:List Qac):∀ (m j:Nat) (f:Bool),i+m=j+1→j < X.length →
 wp tb (.loop Jdt) { T:=[(0,O2 X),(1,I a),(4,fcE),(12,I i),(13,I j)]++(if f then [(47,Bo false)] else []),loc:=[],M:=M }
  (fun ex st=>ex=.exit 2∧∃ j':Nat,(j'≤j∧i≤j'+1∧Qd4 X (j'+1) (j+1) X[a]∧(i≤j'→∃ h:j' < X.length,Qan X[j'] X[a]=true)) ∧
    st={ T:=[(0,O2 X),(1,I a),(4,fcE),(12,I i),(13,I j'),(66,Bo false)],loc:=[],M:=M }):=by
 intro m
 induction m with
 | zero =>
   intro j f hj hjl
   have h1:¬ i≤j:=by omega
   have h2:¬ (i:Int)≤j:=by omega
   cases f
   all_goals
    simp only [if_true,if_false,Bool.false_eq_true,List.append_nil,List.cons_append,List.nil_append]
    refine wW ?_
    repeat (first|apply wA|apply wS|refine wr (by simp [h1,h2];with_reducible rfl) ?_|refine wq (by simp [h1,h2];with_reducible rfl) ?_|refine wt (by simpa [h1,h2]) ?_|refine wf (by simpa [h1,h2]) ?_|refine xt (by simpa [h1,h2]) ?_|refine xf (by simpa [h1,h2]) ?_|apply wB|apply Qab|refine wX ?_|refine wY ?_|refine wR ?_|refine wK ?_|refine wE ?_)
    exact ⟨rfl,j,⟨Nat.le_refl _,by omega,fun k e k1 k2 _=>by omega,fun h=>absurd h h1⟩,rfl⟩
 | succ m ih =>
   intro j f hj hjl
   have h1:i≤j:=by omega
   have h2:(i:Int)≤j:=by omega
   obtain ⟨q,rfl⟩:∃ q,j=q+1:=⟨j - 1,by omega⟩
   have w1:IntKind.i64.wrap (q:Int)=(q:Int):=Qae (by omega) (by omega)
   have hb:=Qb1 X[q+1] X[a]
   have e1:=fun M=>Qaa (Qer (hX _ (List.getElem_mem hjl)) (hX _ (List.getElem_mem ha)) M)
   have h3:(i:Int)≤(q:Int)+1:=by omega
   cases f
   all_goals
    simp only [if_true,if_false,Bool.false_eq_true,List.append_nil,List.cons_append,List.nil_append]
    by_cases hc:Qnb X[q+1] X[a] < 0
    · have hbt:Qan X[q+1] X[a]=true:=by rw [← hb];exact decide_eq_true hc
      refine wW ?_
      repeat (first|apply wA|apply wS|refine wr (by simp [h1,h2,h3,hjl,ha,e1,hc,w1];with_reducible rfl) ?_|refine wq (by simp [h1,h2,h3,hjl,ha,e1,hc,w1];with_reducible rfl) ?_|refine wt (by simpa [h1,h2,h3,hjl,ha,e1,hc,w1]) ?_|refine wf (by simpa [h1,h2,h3,hjl,ha,e1,hc,w1]) ?_|refine xt (by simpa [h1,h2,h3,hjl,ha,e1,hc,w1]) ?_|refine xf (by simpa [h1,h2,h3,hjl,ha,e1,hc,w1]) ?_|apply wB|apply Qab|refine wX ?_|refine wY ?_|refine wR ?_|refine wK ?_|refine wE ?_)
      exact ⟨rfl,q+1,⟨Nat.le_refl _,by omega,fun k e k1 k2 _=>by omega,fun _=>⟨hjl,hbt⟩⟩,rfl⟩
    · have hbt:Qan X[q+1] X[a]=false:=by rw [← hb];exact decide_eq_false hc
      refine wW ?_
      repeat (first|apply wA|apply wS|refine wr (by simp [h1,h2,h3,hjl,ha,e1,hc,w1];with_reducible rfl) ?_|refine wq (by simp [h1,h2,h3,hjl,ha,e1,hc,w1];with_reducible rfl) ?_|refine wt (by simpa [h1,h2,h3,hjl,ha,e1,hc,w1]) ?_|refine wf (by simpa [h1,h2,h3,hjl,ha,e1,hc,w1]) ?_|refine xt (by simpa [h1,h2,h3,hjl,ha,e1,hc,w1]) ?_|refine xf (by simpa [h1,h2,h3,hjl,ha,e1,hc,w1]) ?_|apply wB|apply Qab|refine wX ?_|refine wY ?_|refine wR ?_|refine wK ?_|refine wE ?_)
      refine Qah ((by simpa using ih q false (by omega) (by omega))) ?_
      rintro ex st ⟨rfl,j',⟨k1,k2,k3,k4⟩,rfl⟩
      refine ⟨rfl,j',⟨by omega,k2,fun k e q1 q2 q3=>?_,k4⟩,rfl⟩
      by_cases hk:k=q+1
      · subst hk
        rw [List.getElem?_eq_getElem hjl] at q3
        cases q3;exact hbt
      · exact k3 k e q1 (by omega) q3
theorem Qv0 (X:List (Int×Int)) (hX:∀ x ∈ X,DE x) (hl:X.length≤1000000) (a i:Nat) (ha:a < X.length) (h0:0 < i) (M:List Qac):∀ (m j:Nat) (f:Bool),i+m=j+1→j < X.length →
 wp tb (.loop Qxi) { T:=[(0,O2 X),(1,I a),(4,fcE),(12,I i),(13,I j)]++(if f then [(120,Bo false)] else []),loc:=[],M:=M }
  (fun ex st=>ex=.exit 8∧∃ j':Nat,(j'≤j∧i≤j'+1∧Qd4 X (j'+1) (j+1) X[a]∧(i≤j'→∃ h:j' < X.length,Qan X[j'] X[a]=true)) ∧
    st={ T:=[(0,O2 X),(1,I a),(4,fcE),(12,I i),(13,I j'),(139,Bo false)],loc:=[],M:=M }):=by
 intro m
 induction m with
 | zero =>
   intro j f hj hjl
   have h1:¬ i≤j:=by omega
   have h2:¬ (i:Int)≤j:=by omega
   cases f
   all_goals
    simp only [if_true,if_false,Bool.false_eq_true,List.append_nil,List.cons_append,List.nil_append]
    refine wW ?_
    repeat (first|apply wA|apply wS|refine wr (by simp [h1,h2];with_reducible rfl) ?_|refine wq (by simp [h1,h2];with_reducible rfl) ?_|refine wt (by simpa [h1,h2]) ?_|refine wf (by simpa [h1,h2]) ?_|refine xt (by simpa [h1,h2]) ?_|refine xf (by simpa [h1,h2]) ?_|apply wB|apply Qab|refine wX ?_|refine wY ?_|refine wR ?_|refine wK ?_|refine wE ?_)
    exact ⟨rfl,j,⟨Nat.le_refl _,by omega,fun k e k1 k2 _=>by omega,fun h=>absurd h h1⟩,rfl⟩
 | succ m ih =>
   intro j f hj hjl
   have h1:i≤j:=by omega
   have h2:(i:Int)≤j:=by omega
   obtain ⟨q,rfl⟩:∃ q,j=q+1:=⟨j - 1,by omega⟩
   have w1:IntKind.i64.wrap (q:Int)=(q:Int):=Qae (by omega) (by omega)
   have hb:=Qb1 X[q+1] X[a]
   have e1:=fun M=>Qaa (Qer (hX _ (List.getElem_mem hjl)) (hX _ (List.getElem_mem ha)) M)
   have h3:(i:Int)≤(q:Int)+1:=by omega
   cases f
   all_goals
    simp only [if_true,if_false,Bool.false_eq_true,List.append_nil,List.cons_append,List.nil_append]
    by_cases hc:Qnb X[q+1] X[a] < 0
    · have hbt:Qan X[q+1] X[a]=true:=by rw [← hb];exact decide_eq_true hc
      refine wW ?_
      repeat (first|apply wA|apply wS|refine wr (by simp [h1,h2,h3,hjl,ha,e1,hc,w1];with_reducible rfl) ?_|refine wq (by simp [h1,h2,h3,hjl,ha,e1,hc,w1];with_reducible rfl) ?_|refine wt (by simpa [h1,h2,h3,hjl,ha,e1,hc,w1]) ?_|refine wf (by simpa [h1,h2,h3,hjl,ha,e1,hc,w1]) ?_|refine xt (by simpa [h1,h2,h3,hjl,ha,e1,hc,w1]) ?_|refine xf (by simpa [h1,h2,h3,hjl,ha,e1,hc,w1]) ?_|apply wB|apply Qab|refine wX ?_|refine wY ?_|refine wR ?_|refine wK ?_|refine wE ?_)
      exact ⟨rfl,q+1,⟨Nat.le_refl _,by omega,fun k e k1 k2 _=>by omega,fun _=>⟨hjl,hbt⟩⟩,rfl⟩
    · have hbt:Qan X[q+1] X[a]=false:=by rw [← hb];exact decide_eq_false hc
      refine wW ?_
      repeat (first|apply wA|apply wS|refine wr (by simp [h1,h2,h3,hjl,ha,e1,hc,w1];with_reducible rfl) ?_|refine wq (by simp [h1,h2,h3,hjl,ha,e1,hc,w1];with_reducible rfl) ?_|refine wt (by simpa [h1,h2,h3,hjl,ha,e1,hc,w1]) ?_|refine wf (by simpa [h1,h2,h3,hjl,ha,e1,hc,w1]) ?_|refine xt (by simpa [h1,h2,h3,hjl,ha,e1,hc,w1]) ?_|refine xf (by simpa [h1,h2,h3,hjl,ha,e1,hc,w1]) ?_|apply wB|apply Qab|refine wX ?_|refine wY ?_|refine wR ?_|refine wK ?_|refine wE ?_)
      refine Qah ((by simpa using ih q false (by omega) (by omega))) ?_
      rintro ex st ⟨rfl,j',⟨k1,k2,k3,k4⟩,rfl⟩
      refine ⟨rfl,j',⟨by omega,k2,fun k e q1 q2 q3=>?_,k4⟩,rfl⟩
      by_cases hk:k=q+1
      · subst hk
        rw [List.getElem?_eq_getElem hjl] at q3
        cases q3;exact hbt
      · exact k3 k e q1 (by omega) q3
structure Qrf (X0 X:List (Int×Int)) (a b i j:Nat) (x:Int×Int):Prop where
 seg:Seg X0 X a b
 piv:X[a]? = some x
 lo:Qh8 X (a+1) i x
 hi:Qd4 X (j+1) b x
 ai:a+1≤i
 ij:i≤j+1
 jb:j < b
 bl:b≤X.length
theorem Qrf.al {X0 X a b i j x} (h:Qrf X0 X a b i j x):a < X.length:=(List.getElem?_eq_some_iff.1 h.piv).1
theorem Qrf.xa {X0 X a b i j x} (h:Qrf X0 X a b i j x):X[a]'h.al=x:=(List.getElem?_eq_some_iff.1 h.piv).2
theorem Qrf.swap {X0 X a b i j x} (h:Qrf X0 X a b i j x) (hi:i < X.length) (hj:j < X.length) (hij:i≤j) (h1:Qan X[i] x=false) (h2:Qan X[j] x=true) :
 ∃ q,j=q+1∧i < j∧Qrf X0 (Qeb X i j hi hj) a b (i+1) q x:=by
 have hne:i ≠ j:=by rintro rfl;rw [h1] at h2;cases h2
 have hb:=h.bl
 have hjb:=h.jb
 have hai:=h.ai
 refine ⟨j - 1,by omega,by omega,h.seg.trans (Qe8 X i j a b hi hj (by omega) (by omega)),?_,?_,?_,by omega,by omega,by omega,by rw [Qoy];exact hb⟩
 · rw [Qct,if_neg (by omega),if_neg (by omega)];exact h.piv
 · intro k e k1 k2 he
   rw [Qct,if_neg (by omega)] at he
   by_cases hk:k=i
   · rw [if_pos hk] at he
     cases he;exact h2
   · rw [if_neg hk] at he
     exact h.lo k e k1 (by omega) he
 · intro k e k1 k2 he
   rw [Qct] at he
   by_cases hk:k=j
   · rw [if_pos hk] at he
     cases he;exact h1
   · rw [if_neg hk,if_neg (by omega)] at he
     exact h.hi k e (by omega) k2 he
theorem Jad (X0:List (Int×Int)) (hX0:∀ x ∈ X0,DE x) (hl:X0.length≤1000000) (a b:Nat) (x:Int×Int) (M:List Qac):∀ (m:Nat) (X:List (Int×Int)) (i j:Nat),j+1≤i+m→Qrf X0 X a b i j x →
 wp tb (.loop Qvv) { T:=[(0,O2 X),(1,I a),(4,fcE),(12,I i),(13,I j)],loc:=[],M:=M }
  (fun ex st=>ex=.exit 4∧∃ (X':List (Int×Int)) (j':Nat),Qrf X0 X' a b (j'+1) j' x∧st={ T:=[(0,O2 X'),(1,I a),(4,fcE),(12,I (j'+1:Nat)),(13,I j'),(144,Bo true)],loc:=[],M:=M }):=by
 intro m
 induction m with
 | zero =>
   intro X i j hm h
   have hij:=h.ij
   have hi:i=j+1:=by omega
   subst hi
   have hXl:=h.seg.len
   have hX:∀ y ∈ X,DE y:=fun y hy=>hX0 y (h.seg.perm.mem_iff.1 hy)
   have hjl:j < X.length:=by have:=h.jb;have:=h.bl;omega
   have hA:=Qvh X hX (by omega) a j h.al hjl M 0 (j+1) (by omega)
   have hB:=Qv0 X hX (by omega) a (j+1) h.al (by omega) M 0 j true (by omega) hjl
   have g1:((j+1:Nat):Int) > (j:Int):=by omega
   refine wW ?_
   repeat (first|apply wA|apply wS|refine wr (by simp;with_reducible rfl) ?_|refine wq (by simp;with_reducible rfl) ?_|refine wt (by simpa) ?_|refine wf (by simpa) ?_|refine xt (by simpa) ?_|refine xf (by simpa) ?_|apply wB|apply Qab|refine wX ?_|refine wY ?_|refine wR ?_|refine wK ?_|refine wE ?_)
   refine Qah hA ?_
   rintro ex st ⟨rfl,i',⟨k1,k2,-,-⟩,rfl⟩
   have:i'=j+1:=by omega
   subst this
   simp only [if_true]
   repeat (first|apply wA|apply wS|refine wr (by simp;with_reducible rfl) ?_|refine wq (by simp;with_reducible rfl) ?_|refine wt (by simpa) ?_|refine wf (by simpa) ?_|refine xt (by simpa) ?_|refine xf (by simpa) ?_|apply wB|apply Qab|refine wX ?_|refine wY ?_|refine wR ?_|refine wK ?_|refine wE ?_)
   refine Qah hB ?_
   rintro ex st ⟨rfl,j',⟨k1,k2,-,-⟩,rfl⟩
   have:j'=j:=by omega
   subst this
   simp only [if_true]
   have g2:(j':Int) < (j':Int)+1:=by omega
   repeat (first|apply wA|apply wS|refine wr (by simp [g2];with_reducible rfl) ?_|refine wq (by simp [g2];with_reducible rfl) ?_|refine wt (by simpa [g2]) ?_|refine wf (by simpa [g2]) ?_|refine xt (by simpa [g2]) ?_|refine xf (by simpa [g2]) ?_|apply wB|apply Qab|refine wX ?_|refine wY ?_|refine wR ?_|refine wK ?_|refine wE ?_)
   exact ⟨rfl,X,j',h,rfl⟩
 | succ m ih =>
   intro X i j hm h
   have hXl:=h.seg.len
   have hX:∀ y ∈ X,DE y:=fun y hy=>hX0 y (h.seg.perm.mem_iff.1 hy)
   have hjb:=h.jb
   have hbl:=h.bl
   have hai:=h.ai
   have hjl:j < X.length:=by omega
   have hxa:=h.xa
   obtain ⟨mm,hmm⟩:∃ mm,i+mm=j+1:=⟨j+1 - i,by have:=h.ij;omega⟩
   have hA:=Qvh X hX (by omega) a j h.al hjl M mm i hmm
   rw [hxa] at hA
   refine wW ?_
   repeat (first|apply wA|apply wS|refine wr (by simp;with_reducible rfl) ?_|refine wq (by simp;with_reducible rfl) ?_|refine wt (by simpa) ?_|refine wf (by simpa) ?_|refine xt (by simpa) ?_|refine xf (by simpa) ?_|apply wB|apply Qab|refine wX ?_|refine wY ?_|refine wR ?_|refine wK ?_|refine wE ?_)
   refine Qah hA ?_
   rintro ex st ⟨rfl,i',⟨k1,k2,k3,k4⟩,rfl⟩
   simp only [if_true]
   obtain ⟨m2,hm2⟩:∃ m2,i'+m2=j+1:=⟨j+1 - i',by omega⟩
   have hB:=Qv0 X hX (by omega) a i' h.al (by omega) M m2 j true hm2 hjl
   rw [hxa] at hB
   repeat (first|apply wA|apply wS|refine wr (by simp;with_reducible rfl) ?_|refine wq (by simp;with_reducible rfl) ?_|refine wt (by simpa) ?_|refine wf (by simpa) ?_|refine xt (by simpa) ?_|refine xf (by simpa) ?_|apply wB|apply Qab|refine wX ?_|refine wY ?_|refine wR ?_|refine wK ?_|refine wE ?_)
   refine Qah hB ?_
   rintro ex st ⟨rfl,j',⟨q1,q2,q3,q4⟩,rfl⟩
   simp only [if_true]
   have h':Qrf X0 X a b i' j' x:=⟨h.seg,h.piv,fun k e a1 a2 a3=>by
    by_cases hk:k < i
    · exact h.lo k e a1 hk a3
    · exact k3 k e (by omega) a2 a3,fun k e a1 a2 a3=>by
    by_cases hk:j < k
    · exact h.hi k e (by omega) a2 a3
    · exact q3 k e a1 (by omega) a3,by omega,by omega,by omega,by omega⟩
   by_cases hij:i'≤j'
   · obtain ⟨hjl',hb2⟩:=q4 hij
     have hil':i' < X.length:=by omega
     obtain ⟨q,rfl,hlt,hP⟩:=h'.swap hil' hjl' hij (k4 (by omega)) hb2
     have g1:¬ ((q+1:Nat):Int) < (i':Int):=by omega
     have g2:¬ (q:Int)+1 < (i':Int):=by omega
     have w1:IntKind.i64.wrap ((i':Int)+1)=((i'+1:Nat):Int):=Qbg (by omega)
     have w2:IntKind.i64.wrap (q:Int)=(q:Int):=Qae (by omega) (by omega)
     have hn:=ih (Qeb X i' (q+1) hil' hjl') (i'+1) q (by omega) hP
     repeat (first|apply wA|apply wS|refine wr (by simp [g1,g2,hil',hjl',w1,w2];with_reducible rfl) ?_|refine wq (by simp [g1,g2,hil',hjl',w1,w2];with_reducible rfl) ?_|refine wt (by simpa [g1,g2,hil',hjl',w1,w2]) ?_|refine wf (by simpa [g1,g2,hil',hjl',w1,w2]) ?_|refine xt (by simpa [g1,g2,hil',hjl',w1,w2]) ?_|refine xf (by simpa [g1,g2,hil',hjl',w1,w2]) ?_|apply wB|apply Qab|refine wX ?_|refine wY ?_|refine wR ?_|refine wK ?_|refine wE ?_)
     exact hn
   · have hi3:i'=j'+1:=by omega
     subst hi3
     have g2:(j':Int) < (j':Int)+1:=by omega
     repeat (first|apply wA|apply wS|refine wr (by simp [g2];with_reducible rfl) ?_|refine wq (by simp [g2];with_reducible rfl) ?_|refine wt (by simpa [g2]) ?_|refine wf (by simpa [g2]) ?_|refine xt (by simpa [g2]) ?_|refine xf (by simpa [g2]) ?_|apply wB|apply Qab|refine wX ?_|refine wY ?_|refine wR ?_|refine wK ?_|refine wE ?_)
     exact ⟨rfl,X,j',h',rfl⟩
theorem Qrf.fin {X0 X a b j x} (h:Qrf X0 X a b (j+1) j x) (hj:j < X.length):Seg X0 (Qeb X j a hj h.al) a b∧(Qeb X j a hj h.al)[j]? = some x∧Qh8 (Qeb X j a hj h.al) a j x∧Qd4 (Qeb X j a hj h.al) (j+1) b x:=by
 have hb:=h.bl
 have hjb:=h.jb
 have hai:=h.ai
 have hxa:=h.xa
 refine ⟨h.seg.trans (Qe8 X j a a b hj h.al (by omega) (by omega)),?_,fun k e k1 k2 he=>?_,fun k e k1 k2 he=>?_⟩
 · rw [Qct]
   by_cases hja:j=a
   · subst hja;rw [if_pos rfl,hxa]
   · rw [if_neg hja,if_pos rfl,hxa]
 · rw [Qct] at he
   by_cases hka:k=a
   · rw [if_pos hka] at he
     cases he
     exact h.lo j _ (by omega) (by omega) (List.getElem?_eq_getElem hj)
   · rw [if_neg hka,if_neg (by omega)] at he
     exact h.lo k e (by omega) (by omega) he
 · rw [Qct,if_neg (by omega),if_neg (by omega)] at he
   exact h.hi k e k1 k2 he
theorem Qpc (X:List (Int×Int)) (hX:∀ x ∈ X,DE x) (hl:X.length≤1000000) (a n p:Nat) (hn:2≤n) (hab:a+n≤X.length) (hp:a≤p∧p < a+n) (M:List Qac) :
 ∃ (X':List (Int×Int)) (mid:Nat) (t:Bool),Seg X X' a (a+n)∧(a≤mid∧mid < a+n)∧X'[mid]? = X[p]?∧(∀ x,X[p]? = some x→Qh8 X' a mid x∧Qd4 X' (mid+1) (a+n) x) ∧
   Ev tb Qs2 [0] [O2 X,I a,I ((a:Int)+n),I p,fcE] M ⟨.tup [I mid,Bo t],[O2 X'],M,[]⟩:=by
 have hpl:p < X.length:=by omega
 have hal:a < X.length:=by omega
 obtain ⟨x,hx⟩:∃ x,x=X[p]:=⟨_,rfl⟩
 obtain ⟨j0,hj0⟩:∃ j0,j0=a+n - 1:=⟨_,rfl⟩
 have hP1:Qrf X (Qeb X a p hal hpl) a (a+n) (a+1) j0 x:=by
  refine ⟨Qe8 X a p a (a+n) hal hpl (by omega) (by omega),?_,fun k e k1 k2 _=>by omega,fun k e k1 k2 _=>by omega,by omega,by omega,by omega,by rw [Qoy];exact hab⟩
  rw [Qct]
  by_cases hap:a=p
  · subst hap;rw [if_pos rfl,hx]
  · rw [if_neg hap,if_pos rfl,hx]
 have hXp:X[p]? = some x:=by rw [hx];exact List.getElem?_eq_getElem hpl
 rw [hXp]
 obtain ⟨X1,hX1⟩:∃ X1,X1=Qeb X a p hal hpl:=⟨_,rfl⟩
 have hsw:(X.set a X[p]).set p X[a]=X1:=hX1.symm
 rw [← hX1] at hP1
 have hX1l:X1.length=X.length:=hP1.seg.len
 have hD1:∀ y ∈ X1,DE y:=fun y hy=>hX y (hP1.seg.perm.mem_iff.1 hy)
 have hj1:j0 < X1.length:=by omega
 have hal1:=hP1.al
 have hxa:=hP1.xa
 have w1:IntKind.i64.wrap ((a:Int)+1)=((a+1:Nat):Int):=Qbg (by omega)
 have w2:IntKind.i64.wrap ((a:Int)+n - 1)=(j0:Int):=by rw [Qae (by omega) (by omega)];omega
 suffices hh:∃ r,(∃ (X':List (Int×Int)) (mid:Nat) (t:Bool),Seg X X' a (a+n)∧(a≤mid∧mid < a+n)∧X'[mid]? = some x∧(Qh8 X' a mid x∧Qd4 X' (mid+1) (a+n) x)∧r=⟨.tup [I mid,Bo t],[O2 X'],M,[]⟩) ∧
  Ev tb Qs2 [0] [O2 X,I a,I ((a:Int)+n),I p,fcE] M r by
  obtain ⟨r,⟨X',mid,t,q1,q2,q3,q4,rfl⟩,q5⟩:=hh
  exact ⟨X',mid,t,q1,q2,q3,fun y hy=>by cases hy;exact q4,q5⟩
 refine Qf7 zt283 rfl ?_
 have hA:=Jhl X1 hD1 (by omega) a j0 hal1 hj1 M (j0 - a) (a+1) (by omega)
 rw [hxa] at hA
 repeat (first|apply wA|apply wS|refine wr (by simp [hpl,hal,hsw,w1,w2];with_reducible rfl) ?_|refine wq (by simp [hpl,hal,hsw,w1,w2];with_reducible rfl) ?_|refine wt (by simpa [hpl,hal,hsw,w1,w2]) ?_|refine wf (by simpa [hpl,hal,hsw,w1,w2]) ?_|refine xt (by simpa [hpl,hal,hsw,w1,w2]) ?_|refine xf (by simpa [hpl,hal,hsw,w1,w2]) ?_|apply wB|apply Qab|refine wX ?_|refine wY ?_|refine wR ?_|refine wK ?_|refine wE ?_)
 refine Qah hA ?_
 rintro ex st ⟨rfl,i',⟨k1,k2,k3,k4⟩,rfl⟩
 simp only [if_true]
 have hB:=Jeo X1 hD1 (by omega) a i' hal1 (by omega) M (j0+1 - i') j0 true (by omega) hj1
 rw [hxa] at hB
 repeat (first|apply wA|apply wS|refine wr (by simp;with_reducible rfl) ?_|refine wq (by simp;with_reducible rfl) ?_|refine wt (by simpa) ?_|refine wf (by simpa) ?_|refine xt (by simpa) ?_|refine xf (by simpa) ?_|apply wB|apply Qab|refine wX ?_|refine wY ?_|refine wR ?_|refine wK ?_|refine wE ?_)
 refine Qah hB ?_
 rintro ex st ⟨rfl,j',⟨q1,q2,q3,q4⟩,rfl⟩
 simp only [if_true]
 have h':Qrf X X1 a (a+n) i' j' x:=⟨hP1.seg,hP1.piv,k3,fun k e a1 a2 a3=>q3 k e a1 (by omega) a3,by omega,by omega,by omega,by omega⟩
 have hjl':j' < X1.length:=by omega
 by_cases hij:i'≤j'
 · obtain ⟨_,hb2⟩:=q4 hij
   have hil':i' < X1.length:=by omega
   obtain ⟨q,rfl,hlt,hP⟩:=h'.swap hil' hjl' hij (k4 (by omega)) hb2
   have g2:¬ (q:Int)+1 < (i':Int):=by omega
   have w3:IntKind.i64.wrap ((i':Int)+1)=((i'+1:Nat):Int):=Qbg (by omega)
   have w4:IntKind.i64.wrap (q:Int)=(q:Int):=Qae (by omega) (by omega)
   repeat (first|apply wA|apply wS|refine wr (by simp [g2,hil',hjl',w3,w4];with_reducible rfl) ?_|refine wq (by simp [g2,hil',hjl',w3,w4];with_reducible rfl) ?_|refine wt (by simpa [g2,hil',hjl',w3,w4]) ?_|refine wf (by simpa [g2,hil',hjl',w3,w4]) ?_|refine xt (by simpa [g2,hil',hjl',w3,w4]) ?_|refine xf (by simpa [g2,hil',hjl',w3,w4]) ?_|apply wB|apply Qab|refine wX ?_|refine wY ?_|refine wR ?_|refine wK ?_|refine wE ?_)
   refine Qah (Jad X hX hl a (a+n) x M (q+1) (Qeb X1 i' (q+1) hil' hjl') (i'+1) q (by omega) hP) ?_
   rintro ex st ⟨rfl,X2,j2,hP2,rfl⟩
   simp only [if_true]
   have hj2:j2 < X2.length:=by have:=hP2.jb;have:=hP2.bl;omega
   have hal2:=hP2.al
   obtain ⟨f1,f2,f3,f4⟩:=hP2.fin hj2
   obtain ⟨X3,hX3⟩:∃ X3,X3=Qeb X2 j2 a hj2 hal2:=⟨_,rfl⟩
   have hsw3:(X2.set j2 X2[a]).set a X2[j2]=X3:=hX3.symm
   rw [← hX3] at f1 f2 f3 f4
   repeat (first|apply wA|apply wS|refine wr (by simp [hj2,hal2,hsw3];with_reducible rfl) ?_|refine wq (by simp [hj2,hal2,hsw3];with_reducible rfl) ?_|refine wt (by simpa [hj2,hal2,hsw3]) ?_|refine wf (by simpa [hj2,hal2,hsw3]) ?_|refine xt (by simpa [hj2,hal2,hsw3]) ?_|refine xf (by simpa [hj2,hal2,hsw3]) ?_|apply wB|apply Qab|refine wX ?_|refine wY ?_|refine wR ?_|refine wK ?_|refine wE ?_)
   refine ⟨.inr rfl,_,⟨X3,j2,false,f1,⟨by have:=hP2.ai;omega,hP2.jb⟩,f2,⟨f3,f4⟩,rfl⟩,?_⟩
   simp [Qwe]
 · have hi3:i'=j'+1:=by omega
   subst hi3
   have g2:(j':Int) < (j':Int)+1:=by omega
   obtain ⟨f1,f2,f3,f4⟩:=h'.fin hjl'
   obtain ⟨X3,hX3⟩:∃ X3,X3=Qeb X1 j' a hjl' hal1:=⟨_,rfl⟩
   have hsw3:(X1.set j' X1[a]).set a X1[j']=X3:=hX3.symm
   rw [← hX3] at f1 f2 f3 f4
   repeat (first|apply wA|apply wS|refine wr (by simp [g2,hjl',hal1,hsw3];with_reducible rfl) ?_|refine wq (by simp [g2,hjl',hal1,hsw3];with_reducible rfl) ?_|refine wt (by simpa [g2,hjl',hal1,hsw3]) ?_|refine wf (by simpa [g2,hjl',hal1,hsw3]) ?_|refine xt (by simpa [g2,hjl',hal1,hsw3]) ?_|refine xf (by simpa [g2,hjl',hal1,hsw3]) ?_|apply wB|apply Qab|refine wX ?_|refine wY ?_|refine wR ?_|refine wK ?_|refine wE ?_)
   refine ⟨.inr rfl,_,⟨X3,j',true,f1,⟨by omega,by omega⟩,f2,⟨f3,f4⟩,rfl⟩,?_⟩
   simp [Qwe]
end Go.Idl
namespace Go.Idl
open Go
abbrev U (n:Int):IV:=.sc (.int .u64 n)
def wU (n:Int):Int:=IntKind.u64.wrap n
def Qvz (a b:Int):Int:=wU (BitVec.ofInt 64 a ^^^ BitVec.ofInt 64 b).toNat
def Jp9 (a b:Int):Int:=wU (BitVec.ofInt 64 a &&& BitVec.ofInt 64 b).toNat
theorem Jgu (a b:Int):binOp .xor 0 (.int .u64 a) (.int .u64 b)=.pure (.int .u64 (Qvz a b)):=rfl
theorem b_and (a b:Int):binOp .and 0 (.int .u64 a) (.int .u64 b)=.pure (.int .u64 (Jp9 a b)):=rfl
theorem Jh4 (a:Int):binOp .shl 0 (.int .u64 a) (.int .u64 13)=.pure (.int .u64 (wU (a * 2 ^ 13))):=rfl
theorem Jhw (a:Int):binOp .shl 0 (.int .u64 a) (.int .u64 17)=.pure (.int .u64 (wU (a * 2 ^ 17))):=rfl
theorem Jvw (a:Int):binOp .shr 0 (.int .u64 a) (.int .u64 7)=.pure (.int .u64 (a.fdiv (2 ^ 7))):=rfl
theorem wU_eq (n:Int):wU n=n % 18446744073709551616:=rfl
theorem Jft {a b:Int} (h0:0≤b) (h1:b < 18446744073709551616):0≤Jp9 a b∧Jp9 a b≤b:=by
 have h2:(BitVec.ofInt 64 a &&& BitVec.ofInt 64 b).toNat≤(BitVec.ofInt 64 b).toNat:=by
  rw [BitVec.toNat_and];exact Nat.and_le_right
 have h3:(BitVec.ofInt 64 b).toNat=b.toNat:=by
  rw [BitVec.toNat_ofInt];congr 1;exact Int.emod_eq_of_lt h0 h1
 rw [h3] at h2
 rw [Jp9,wU_eq]
 generalize (BitVec.ofInt 64 a &&& BitVec.ofInt 64 b).toNat=z at *
 omega
theorem Jhp (s:Int) (Ms Es:List Qac):∃ s':Int,Ev tb Qu2 [] [.bptr Ms.length 0 0] (Ms++[[U s]]::Es) ⟨U s',[],Ms++[[U s']]::Es,[]⟩:=by
 refine ⟨Qvz (Qvz (Qvz s (wU (s * 2 ^ 13))) ((Qvz s (wU (s * 2 ^ 13))).fdiv (2 ^ 7))) (wU (Qvz (Qvz s (wU (s * 2 ^ 13))) ((Qvz s (wU (s * 2 ^ 13))).fdiv (2 ^ 7)) * 2 ^ 17)),?_⟩
 have x1:=Jgu s (wU (s * 2 ^ 13))
 have x0:=Jh4 s
 generalize wU (s * 2 ^ 13)=a at *
 generalize Qvz s a=b at *
 have y0:=Jvw b
 generalize b.fdiv (2 ^ 7)=c at *
 have y1:=Jgu b c
 generalize Qvz b c=d at *
 have z0:=Jhw d
 generalize wU (d * 2 ^ 17)=e at *
 have z1:=Jgu d e
 generalize Qvz d e=f at *
 refine cW zt106 rfl ?_
 repeat (first|apply wA|apply wS|refine wr (by simp [x0,x1,y0,y1,z0,z1];with_reducible rfl) ?_|refine wq (by simp [x0,x1,y0,y1,z0,z1];with_reducible rfl) ?_|refine wt (by simpa [x0,x1,y0,y1,z0,z1]) ?_|refine wf (by simpa [x0,x1,y0,y1,z0,z1]) ?_|refine xt (by simpa [x0,x1,y0,y1,z0,z1]) ?_|refine xf (by simpa [x0,x1,y0,y1,z0,z1]) ?_|apply wB|apply Qab|refine wX ?_|refine wY ?_|refine wR ?_|refine wK ?_|refine wE ?_)
 simp [Ja0]
theorem len_k (cf:CF) (n:Int) (m:Nat) (g:ByteArray) (b:UInt8) (k:Nat) (hw:IntKind.u8.wrap n=(m:Int)) (hb:g[m]? = some b) (hk:b.toNat=k) :
 ∃ st,Qai cf { T:=[(0,.sc (.int .u64 n)),(2,I 0),(14,Bo false)],loc:=[],M:=[] } [⟨some 19,none,.mv (.t 2)⟩,⟨some 20,none,.mv (.t 0)⟩,⟨some 21,none,.conv .u8 (.t 20)⟩,⟨some 22,none,.idxs (.c (.string g)) (.t 21)⟩,⟨some 23,none,.conv .i64 (.t 22)⟩,⟨some 24,none,.bin .add (.t 19) (.t 23)⟩,⟨some 2,none,.asg (.t 24)⟩]=some st∧st.cut [2]={ T:=[(2,I k)],loc:=[],M:=[] }:=by
 subst hk
 have hbl:b.toNat < 256:=b.toNat_lt
 have w1:IntKind.i64.wrap (b.toNat:Int)=(b.toNat:Int):=Qae (by omega) (by omega)
 refine ⟨_,by simp [hw,hb];rfl,by simp [w1]⟩
def Qul (n:Nat):Nat:=if n≤0 then 0 else if n≤1 then 1 else if n≤3 then 2 else if n≤7 then 3 else if n≤15 then 4 else 5
set_option maxRecDepth 100000 in
set_option maxHeartbeats 4000000 in
theorem Qwm (n:Nat) (hn:n≤21):Ev tb Jjn [] [.sc (.int .u64 n)] [] ⟨I (Qul n),[],[],[]⟩:=by
 have cs:n=0 ∨ n=1 ∨ n=2 ∨ n=3 ∨ n=4 ∨ n=5 ∨ n=6 ∨ n=7 ∨ n=8 ∨ n=9 ∨ n=10 ∨ n=11 ∨ n=12 ∨ n=13 ∨ n=14 ∨ n=15 ∨ n=16 ∨ n=17 ∨ n=18 ∨ n=19 ∨ n=20 ∨ n=21:=by omega
 have w8:IntKind.u8.wrap (n:Int)=(n:Int):=by
  rcases cs with rfl | rfl | rfl | rfl | rfl | rfl | rfl | rfl | rfl | rfl | rfl | rfl | rfl | rfl | rfl | rfl | rfl | rfl | rfl | rfl | rfl | rfl <;> rfl
 have key:∃ st,Qai (Qco tb) { T:=[(0,.sc (.int .u64 n)),(2,I 0),(14,Bo false)],loc:=[],M:=[] } (match Qwp with | .reg ops _ _=>ops | _=>[])=some st∧st.cut [2]={ T:=[(2,I (Qul n))],loc:=[],M:=[] }:=by
  rcases cs with rfl | rfl | rfl | rfl | rfl | rfl | rfl | rfl | rfl | rfl | rfl | rfl | rfl | rfl | rfl | rfl | rfl | rfl | rfl | rfl | rfl | rfl
  all_goals
   exact len_k (Qco tb) _ _ _ _ _ w8 rfl rfl
 obtain ⟨st,h1,h2⟩:=key
 have g1:¬ (4294967296:Int)≤n:=by omega
 have g2:¬ (65536:Int)≤n:=by omega
 have g3:¬ (256:Int)≤n:=by omega
 refine cW zt68 rfl ?_
 iterate 4 ((first|apply wA|skip);refine Qb4 (by simp [g1,g2,g3];rfl) (by simp;rfl) ?_;(first|refine Qiv (t:=false) (by simp) (by simp) (fun _=>?_)|skip);(first|apply wS|skip))
 refine Qb4 h1 h2 ?_
 refine wR ?_
 simp [Jqz]
theorem Qx6 (n:Nat) (hn:n≤21):Ev tb Jd3 [] [.sc (.int .u64 n)] [] ⟨I (Qul n),[],[],[]⟩:=by
 have e1:=Qaa (Qwm n hn)
 refine cW zt66 rfl ?_
 repeat (first|apply wA|apply wS|refine wr (by simp [e1];with_reducible rfl) ?_|refine wq (by simp [e1];with_reducible rfl) ?_|refine wt (by simpa [e1]) ?_|refine wf (by simpa [e1]) ?_|refine xt (by simpa [e1]) ?_|refine xf (by simpa [e1]) ?_|apply wB|apply Qab|refine wX ?_|refine wY ?_|refine wR ?_|refine wK ?_|refine wE ?_)
 simp [Jn5]
def npo (n:Nat):Int:=if n≤15 then 16 else 32
theorem Jmy (n:Nat) (h1:13≤n) (h2:n≤21):Ev tb Jl1 [] [I n] [] ⟨U (npo n),[],[],[]⟩:=by
 have e1:=Qaa (Qx6 n h2)
 have w1:=@Jcq n (by omega)
 by_cases h:n≤15
 · rw [show Qul n=4 by rw [Qul,if_neg (by omega),if_neg (by omega),if_neg (by omega),if_neg (by omega),if_pos h],show ((4:Nat):Int)=4 from rfl] at e1
   have s1:binOp .shl 0 (.int .u64 1) (.int .i64 4)=.pure (.int .u64 16):=rfl
   rw [npo,if_pos h]
   refine cW zt91 rfl ?_
   repeat (first|apply wA|apply wS|refine wr (by simp [e1,w1,s1];with_reducible rfl) ?_|refine wq (by simp [e1,w1,s1];with_reducible rfl) ?_|refine wt (by simpa [e1,w1,s1]) ?_|refine wf (by simpa [e1,w1,s1]) ?_|refine xt (by simpa [e1,w1,s1]) ?_|refine xf (by simpa [e1,w1,s1]) ?_|apply wB|apply Qab|refine wX ?_|refine wY ?_|refine wR ?_|refine wK ?_|refine wE ?_)
   simp [Jwy]
   try rfl
 · rw [show Qul n=5 by rw [Qul,if_neg (by omega),if_neg (by omega),if_neg (by omega),if_neg (by omega),if_neg h],show ((5:Nat):Int)=5 from rfl] at e1
   have s1:binOp .shl 0 (.int .u64 1) (.int .i64 5)=.pure (.int .u64 32):=rfl
   rw [npo,if_neg h]
   refine cW zt91 rfl ?_
   repeat (first|apply wA|apply wS|refine wr (by simp [e1,w1,s1];with_reducible rfl) ?_|refine wq (by simp [e1,w1,s1];with_reducible rfl) ?_|refine wt (by simpa [e1,w1,s1]) ?_|refine wf (by simpa [e1,w1,s1]) ?_|refine xt (by simpa [e1,w1,s1]) ?_|refine xf (by simpa [e1,w1,s1]) ?_|apply wB|apply Qab|refine wX ?_|refine wY ?_|refine wR ?_|refine wK ?_|refine wE ?_)
   simp [Jwy]
   try rfl
set_option maxHeartbeats 1000000 in
theorem Jd6 (X0:List (Int×Int)) (hX0:X0.length≤1000000) (a n q:Nat) (hq:q=n / 4) (h13:13≤n) (h21:n≤21) (hab:a+n≤X0.length) (M:List Qac):∀ (m:Nat) (X:List (Int×Int)) (k:Nat) (s:Int),k+m=a+q * 2+2→a≤k→Seg X0 X a (a+n) →
 wp tb (.loop Qvn) { T:=[(0,O2 X),(1,I a),(8,I n),(9,.bptr M.length 0 0),(10,U (npo n)),(11,I k)],loc:=[[U s]],M:=M }
  (fun ex st=>ex=.exit 0∧∃ (X':List (Int×Int)) (s':Int) (k':Nat),Seg X0 X' a (a+n)∧st={ T:=[(0,O2 X'),(1,I a),(8,I n),(9,.bptr M.length 0 0),(10,U (npo n)),(11,I k'),(35,Bo false)],loc:=[[U s']],M:=M }):=by
 have t1:(n:Int).tdiv 4=(q:Int):=by rw [Int.tdiv_eq_ediv_of_nonneg (by omega)];omega
 have w1:IntKind.i64.wrap (q:Int)=(q:Int):=Qae (by omega) (by omega)
 have w2:IntKind.i64.wrap ((q:Int) * 2)=(q:Int) * 2:=Qae (by omega) (by omega)
 have w3:IntKind.i64.wrap ((a:Int)+q * 2)=(a:Int)+q * 2:=Qae (by omega) (by omega)
 have w4:IntKind.i64.wrap ((a:Int)+q * 2+1)=(a:Int)+q * 2+1:=Qae (by omega) (by omega)
 intro m
 induction m with
 | zero =>
   intro X k s hk ha hS
   have g1:¬ (k:Int)≤(a:Int)+q * 2+1:=by omega
   refine wW ?_
   repeat (first|apply wA|apply wS|refine wr (by simp [t1,w1,w2,w3,w4,g1];with_reducible rfl) ?_|refine wq (by simp [t1,w1,w2,w3,w4,g1];with_reducible rfl) ?_|refine wt (by simpa [t1,w1,w2,w3,w4,g1]) ?_|refine wf (by simpa [t1,w1,w2,w3,w4,g1]) ?_|refine xt (by simpa [t1,w1,w2,w3,w4,g1]) ?_|refine xf (by simpa [t1,w1,w2,w3,w4,g1]) ?_|apply wB|apply Qab|refine wX ?_|refine wY ?_|refine wR ?_|refine wK ?_|refine wE ?_)
   exact ⟨rfl,X,s,k,hS,rfl⟩
 | succ m ih =>
   intro X k s hk ha hS
   have hXl:=hS.len
   have g1:(k:Int)≤(a:Int)+q * 2+1:=by omega
   have hkl:k < X.length:=by omega
   obtain ⟨s',hs'⟩:=Jhp s M []
   have e1:=Qaa hs'
   have hnp:npo n=16∧n≤15 ∨ npo n=32∧16≤n:=by
    rw [npo];split <;> omega
   have wU1:IntKind.u64.wrap (npo n - 1)=npo n - 1:=by
    rcases hnp with ⟨h,_⟩ | ⟨h,_⟩ <;> rw [h] <;> rfl
   have hand:=Jft (a:=s') (b:=npo n - 1) (by omega) (by omega)
   have a1:=b_and s' (npo n - 1)
   generalize Jp9 s' (npo n - 1)=o at *
   obtain ⟨o,rfl⟩:=Int.eq_ofNat_of_zero_le hand.1
   have w5:IntKind.i64.wrap (o:Int)=(o:Int):=Qae (by omega) (by omega)
   have w6:IntKind.i64.wrap ((k:Int)+1)=((k+1:Nat):Int):=Qbg (by omega)
   by_cases ho:(n:Int)≤o
   · have ho':n≤o:=by omega
     obtain ⟨p,hp⟩:∃ p,p=o - n:=⟨_,rfl⟩
     have w7:IntKind.i64.wrap ((o:Int) - n)=(p:Int):=by rw [Qae (by omega) (by omega)];omega
     have w8:IntKind.i64.wrap ((a:Int)+p)=(a:Int)+p:=Qae (by omega) (by omega)
     have hno:Qb3 (I ((a:Int)+p))=some (a+p):=Qev (n:=a+p)
     have hpl:a+p < X.length:=by omega
     have hS2:=hS.trans (Qe8 X k (a+p) a (a+n) hkl hpl (by omega) (by omega))
     have hn:=ih (Qeb X k (a+p) hkl hpl) (k+1) s' (by omega) (by omega) hS2
     refine wW ?_
     repeat (first|apply wA|apply wS|refine wr (by simp [t1,w1,w2,w3,w4,g1,e1,wU1,a1,w5,ho,ho',w7,w8,hno,hkl,hpl,w6];with_reducible rfl) ?_|refine wq (by simp [t1,w1,w2,w3,w4,g1,e1,wU1,a1,w5,ho,ho',w7,w8,hno,hkl,hpl,w6];with_reducible rfl) ?_|refine wt (by simpa [t1,w1,w2,w3,w4,g1,e1,wU1,a1,w5,ho,ho',w7,w8,hno,hkl,hpl,w6]) ?_|refine wf (by simpa [t1,w1,w2,w3,w4,g1,e1,wU1,a1,w5,ho,ho',w7,w8,hno,hkl,hpl,w6]) ?_|refine xt (by simpa [t1,w1,w2,w3,w4,g1,e1,wU1,a1,w5,ho,ho',w7,w8,hno,hkl,hpl,w6]) ?_|refine xf (by simpa [t1,w1,w2,w3,w4,g1,e1,wU1,a1,w5,ho,ho',w7,w8,hno,hkl,hpl,w6]) ?_|apply wB|apply Qab|refine wX ?_|refine wY ?_|refine wR ?_|refine wK ?_|refine wE ?_)
     exact hn
   · have ho':¬ n≤o:=by omega
     have w8:IntKind.i64.wrap ((a:Int)+o)=(a:Int)+o:=Qae (by omega) (by omega)
     have hno:Qb3 (I ((a:Int)+o))=some (a+o):=Qev (n:=a+o)
     have hpl:a+o < X.length:=by omega
     have hS2:=hS.trans (Qe8 X k (a+o) a (a+n) hkl hpl (by omega) (by omega))
     have hn:=ih (Qeb X k (a+o) hkl hpl) (k+1) s' (by omega) (by omega) hS2
     refine wW ?_
     repeat (first|apply wA|apply wS|refine wr (by simp [t1,w1,w2,w3,w4,g1,e1,wU1,a1,w5,ho,ho',w8,hno,hkl,hpl,w6];with_reducible rfl) ?_|refine wq (by simp [t1,w1,w2,w3,w4,g1,e1,wU1,a1,w5,ho,ho',w8,hno,hkl,hpl,w6];with_reducible rfl) ?_|refine wt (by simpa [t1,w1,w2,w3,w4,g1,e1,wU1,a1,w5,ho,ho',w8,hno,hkl,hpl,w6]) ?_|refine wf (by simpa [t1,w1,w2,w3,w4,g1,e1,wU1,a1,w5,ho,ho',w8,hno,hkl,hpl,w6]) ?_|refine xt (by simpa [t1,w1,w2,w3,w4,g1,e1,wU1,a1,w5,ho,ho',w8,hno,hkl,hpl,w6]) ?_|refine xf (by simpa [t1,w1,w2,w3,w4,g1,e1,wU1,a1,w5,ho,ho',w8,hno,hkl,hpl,w6]) ?_|apply wB|apply Qab|refine wX ?_|refine wY ?_|refine wR ?_|refine wK ?_|refine wE ?_)
     exact hn
set_option maxHeartbeats 1000000 in
theorem Qi1 (X:List (Int×Int)) (hl:X.length≤1000000) (a n:Nat) (h13:13≤n) (h21:n≤21) (hab:a+n≤X.length) (M:List Qac) :
 ∃ X':List (Int×Int),Seg X X' a (a+n)∧Ev tb Qs4 [0] [O2 X,I a,I ((a:Int)+n),fcE] M ⟨.tup [],[O2 X'],M,[]⟩:=by
 obtain ⟨q,hq⟩:∃ q,q=n / 4:=⟨_,rfl⟩
 have t1:(n:Int).tdiv 4=(q:Int):=by rw [Int.tdiv_eq_ediv_of_nonneg (by omega)];omega
 have w00:(a:Int)+n - a=n:=by omega
 have w0:IntKind.i64.wrap (n:Int)=(n:Int):=Qae (by omega) (by omega)
 have w1:IntKind.i64.wrap (q:Int)=(q:Int):=Qae (by omega) (by omega)
 have w2:IntKind.i64.wrap ((q:Int) * 2)=(q:Int) * 2:=Qae (by omega) (by omega)
 have w3:IntKind.i64.wrap ((a:Int)+q * 2)=(a:Int)+q * 2:=Qae (by omega) (by omega)
 have w4:IntKind.i64.wrap ((a:Int)+q * 2 - 1)=((a+q * 2 - 1:Nat):Int):=by rw [Qae (by omega) (by omega)];omega
 have wu:=@Jcq n (by omega)
 have g1:(8:Int)≤n:=by omega
 have g1':8≤n:=by omega
 have e1:=Qaa (Jmy n h13 h21)
 have hlo:=Jd6 X hl a n q hq h13 h21 hab M 3 X (a+q * 2 - 1) n (by omega) (by omega) (Seg.refl X a (a+n))
 generalize a+q * 2 - 1=k0 at *
 suffices hh:∃ r,(∃ X':List (Int×Int),Seg X X' a (a+n)∧r=⟨.tup [],[O2 X'],M,[]⟩)∧Ev tb Qs4 [0] [O2 X,I a,I ((a:Int)+n),fcE] M r by
  obtain ⟨r,⟨X',q1,rfl⟩,q2⟩:=hh
  exact ⟨X',q1,q2⟩
 refine Qf7 Jzu rfl ?_
 repeat (first|apply wA|apply wS|refine wr (by simp [t1,w00,w0,w1,w2,w3,w4,wu,g1,g1',e1];with_reducible rfl) ?_|refine wq (by simp [t1,w00,w0,w1,w2,w3,w4,wu,g1,g1',e1];with_reducible rfl) ?_|refine wt (by simpa [t1,w00,w0,w1,w2,w3,w4,wu,g1,g1',e1]) ?_|refine wf (by simpa [t1,w00,w0,w1,w2,w3,w4,wu,g1,g1',e1]) ?_|refine xt (by simpa [t1,w00,w0,w1,w2,w3,w4,wu,g1,g1',e1]) ?_|refine xf (by simpa [t1,w00,w0,w1,w2,w3,w4,wu,g1,g1',e1]) ?_|apply wB|apply Qab|refine wX ?_|refine wY ?_|refine wR ?_|refine wK ?_|refine wE ?_)
 refine Qah hlo ?_
 rintro ex st ⟨rfl,X',s',k',hS,rfl⟩
 try simp only [if_true]
 repeat (first|apply wA|apply wS|refine wr (by simp;with_reducible rfl) ?_|refine wq (by simp;with_reducible rfl) ?_|refine wt (by simpa) ?_|refine wf (by simpa) ?_|refine xt (by simpa) ?_|refine xf (by simpa) ?_|apply wB|apply Qab|refine wX ?_|refine wY ?_|refine wR ?_|refine wK ?_|refine wE ?_)
 refine ⟨by simp,_,⟨X',hS,rfl⟩,?_⟩
 simp [Jch]
theorem Ji5 (X:List (Int×Int)) (hX:∀ x ∈ X,DE x) (hl:X.length≤1000000) (a b:Nat) (hab:a < b) (hb:b≤X.length) (M:List Qac):∀ (m i:Nat) (f:Bool),i+m=b→a < i →
 wp tb (.loop Jc3) { T:=[(0,O2 X),(1,I a),(2,I b),(3,fcE),(9,I i),(10,I 0)]++(if f then [(16,Bo true)] else []),loc:=[],M:=M }
  (fun ex st=>ex=.exit 2∧∃ i':Nat,(i≤i'∧i'≤b∧(∀ k,i≤k→k < i'→∀ h1 h2,Qan (X[k]'h1) (X[k - 1]'h2)=false))∧st={ T:=[(0,O2 X),(1,I a),(2,I b),(3,fcE),(9,I i'),(10,I 0),(36,Bo false)],loc:=[],M:=M }):=by
 intro m
 induction m with
 | zero =>
   intro i f hi ha
   have g1:¬ i < b:=by omega
   have g1':¬ (i:Int) < b:=by omega
   cases f
   all_goals
    simp only [if_true,if_false,Bool.false_eq_true,List.append_nil,List.cons_append,List.nil_append]
    refine wW ?_
    repeat (first|apply wA|apply wS|refine wr (by simp [g1,g1'];with_reducible rfl) ?_|refine wq (by simp [g1,g1'];with_reducible rfl) ?_|refine wt (by simpa [g1,g1']) ?_|refine wf (by simpa [g1,g1']) ?_|refine xt (by simpa [g1,g1']) ?_|refine xf (by simpa [g1,g1']) ?_|apply wB|apply Qab|refine wX ?_|refine wY ?_|refine wR ?_|refine wK ?_|refine wE ?_)
    exact ⟨rfl,i,⟨Nat.le_refl _,by omega,fun k k1 k2=>by omega⟩,rfl⟩
 | succ m ih =>
   intro i f hi ha
   obtain ⟨p,rfl⟩:∃ p,i=p+1:=⟨i - 1,by omega⟩
   have hil:p+1 < X.length:=by omega
   have hpl:p < X.length:=by omega
   have g1:p+1 < b:=by omega
   have g1':(p:Int)+1 < b:=by omega
   have w1:IntKind.i64.wrap (p:Int)=(p:Int):=Qae (by omega) (by omega)
   have w2:IntKind.i64.wrap ((p:Int)+1+1)=((p+1+1:Nat):Int):=by rw [Qae (by omega) (by omega)];omega
   have hbl:=Qb1 X[p+1] X[p]
   have e1:=fun M=>Qaa (Qer (hX _ (List.getElem_mem hil)) (hX _ (List.getElem_mem hpl)) M)
   cases f
   all_goals
    simp only [if_true,if_false,Bool.false_eq_true,List.append_nil,List.cons_append,List.nil_append]
    by_cases hc:Qnb X[p+1] X[p] < 0
    · refine wW ?_
      repeat (first|apply wA|apply wS|refine wr (by simp [g1,g1',hil,hpl,w1,e1,hc,w2];with_reducible rfl) ?_|refine wq (by simp [g1,g1',hil,hpl,w1,e1,hc,w2];with_reducible rfl) ?_|refine wt (by simpa [g1,g1',hil,hpl,w1,e1,hc,w2]) ?_|refine wf (by simpa [g1,g1',hil,hpl,w1,e1,hc,w2]) ?_|refine xt (by simpa [g1,g1',hil,hpl,w1,e1,hc,w2]) ?_|refine xf (by simpa [g1,g1',hil,hpl,w1,e1,hc,w2]) ?_|apply wB|apply Qab|refine wX ?_|refine wY ?_|refine wR ?_|refine wK ?_|refine wE ?_)
      exact ⟨rfl,p+1,⟨Nat.le_refl _,by omega,fun k k1 k2=>by omega⟩,rfl⟩
    · have hbt:Qan X[p+1] X[p]=false:=by rw [← hbl];exact decide_eq_false hc
      refine wW ?_
      repeat (first|apply wA|apply wS|refine wr (by simp [g1,g1',hil,hpl,w1,e1,hc,w2];with_reducible rfl) ?_|refine wq (by simp [g1,g1',hil,hpl,w1,e1,hc,w2];with_reducible rfl) ?_|refine wt (by simpa [g1,g1',hil,hpl,w1,e1,hc,w2]) ?_|refine wf (by simpa [g1,g1',hil,hpl,w1,e1,hc,w2]) ?_|refine xt (by simpa [g1,g1',hil,hpl,w1,e1,hc,w2]) ?_|refine xf (by simpa [g1,g1',hil,hpl,w1,e1,hc,w2]) ?_|apply wB|apply Qab|refine wX ?_|refine wY ?_|refine wR ?_|refine wK ?_|refine wE ?_)
      refine Qah (by simpa using ih (p+1+1) false (by omega) (by omega)) ?_
      rintro ex st ⟨rfl,i',⟨k1,k2,k3⟩,rfl⟩
      refine ⟨rfl,i',⟨by omega,k2,fun k q1 q2 h1 h2=>?_⟩,rfl⟩
      by_cases hk:k=p+1
      · subst hk;exact hbt
      · exact k3 k (by omega) q2 h1 h2
theorem Ql2 (X:List (Int×Int)) (hX:∀ x ∈ X,DE x) (hl:X.length≤1000000) (a n:Nat) (h1:1≤n) (h49:n≤49) (hab:a+n≤X.length) (M:List Qac) :
 ∃ t:Bool,(t=true→∀ k,a < k→k < a+n→∀ h1 h2,Qan (X[k]'h1) (X[k - 1]'h2)=false)∧Ev tb Qub [0] [O2 X,I a,I ((a:Int)+n),fcE] M ⟨Bo t,[O2 X],M,[]⟩:=by
 have w00:(a:Int)+n - a=n:=by omega
 have w0:IntKind.i64.wrap (n:Int)=(n:Int):=Qae (by omega) (by omega)
 have w1:IntKind.i64.wrap ((a:Int)+1)=((a+1:Nat):Int):=Qbg (by omega)
 have g1:(n:Int) < 50:=by omega
 have g1':n < 50:=by omega
 suffices hh:∃ r,(∃ t:Bool,(t=true→∀ k,a < k→k < a+n→∀ h1 h2,Qan (X[k]'h1) (X[k - 1]'h2)=false)∧r=⟨Bo t,[O2 X],M,[]⟩)∧Ev tb Qub [0] [O2 X,I a,I ((a:Int)+n),fcE] M r by
  obtain ⟨r,⟨t,q1,rfl⟩,q2⟩:=hh
  exact ⟨t,q1,q2⟩
 have hlo:=Ji5 X hX hl a (a+n) (by omega) hab M (n - 1) (a+1) true (by omega) (by omega)
 rw [show ((a+n:Nat):Int)=(a:Int)+n by omega] at hlo
 refine Qf7 zt282 rfl ?_
 repeat (first|apply wA|apply wS|refine wr (by simp [w1];with_reducible rfl) ?_|refine wq (by simp [w1];with_reducible rfl) ?_|refine wt (by simpa [w1]) ?_|refine wf (by simpa [w1]) ?_|refine xt (by simpa [w1]) ?_|refine xf (by simpa [w1]) ?_|apply wB|apply Qab|refine wX ?_|refine wY ?_|refine wR ?_|refine wK ?_|refine wE ?_)
 refine wW ?_
 repeat (first|apply wA|apply wS|refine wr (by simp;with_reducible rfl) ?_|refine wq (by simp;with_reducible rfl) ?_|refine wt (by simpa) ?_|refine wf (by simpa) ?_|refine xt (by simpa) ?_|refine xf (by simpa) ?_|apply wB|apply Qab|refine wX ?_|refine wY ?_|refine wR ?_|refine wK ?_|refine wE ?_)
 refine Qah hlo ?_
 rintro ex st ⟨rfl,i',⟨k1,k2,k3⟩,rfl⟩
 try simp only [if_true]
 by_cases hi:i'=a+n
 · have g2:((i':Nat):Int)=(a:Int)+n:=by omega
   repeat (first|apply wA|apply wS|refine wr (by simp [g2];with_reducible rfl) ?_|refine wq (by simp [g2];with_reducible rfl) ?_|refine wt (by simpa [g2]) ?_|refine wf (by simpa [g2]) ?_|refine xt (by simpa [g2]) ?_|refine xf (by simpa [g2]) ?_|apply wB|apply Qab|refine wX ?_|refine wY ?_|refine wR ?_|refine wK ?_|refine wE ?_)
   refine ⟨.inr rfl,_,⟨true,fun _ k q1 q2=>k3 k (by omega) (by omega),rfl⟩,?_⟩
   simp [Qw3]
 · have g2:¬ ((i':Nat):Int)=(a:Int)+n:=by omega
   repeat (first|apply wA|apply wS|refine wr (by simp [g2,w00,w0,g1,g1'];with_reducible rfl) ?_|refine wq (by simp [g2,w00,w0,g1,g1'];with_reducible rfl) ?_|refine wt (by simpa [g2,w00,w0,g1,g1']) ?_|refine wf (by simpa [g2,w00,w0,g1,g1']) ?_|refine xt (by simpa [g2,w00,w0,g1,g1']) ?_|refine xf (by simpa [g2,w00,w0,g1,g1']) ?_|apply wB|apply Qab|refine wX ?_|refine wY ?_|refine wR ?_|refine wK ?_|refine wE ?_)
   refine ⟨.inr rfl,_,⟨false,(fun h=>nomatch h),rfl⟩,?_⟩
   simp [Qw3]
end Go.Idl
namespace Go.Idl
open Go
def nl2:List (Int×Int)→IV
 | []=>Z
 | e::es=>O2 (e::es)
@[simp] theorem nl2_nil:nl2 []=Z:=rfl
@[simp] theorem Jxx (e:Int×Int) (es:List (Int×Int)):nl2 (e::es)=O2 (e::es):=rfl
theorem Qme (a b:Int) (M:List Qac):Ev tb Jaa [] [I a,I b] M ⟨.agg [I (min a b),I (max a b)],[],M,[]⟩:=by
 have h1:(if b < a then b else a)=min a b:=Qio a b
 have h2:(if a < b then b else a)=max a b:=Jpw a b
 refine cW zt36 rfl ?_
 repeat (first|apply wA|apply wS|refine wr (by simp;with_reducible rfl) ?_|refine wq (by simp;with_reducible rfl) ?_|refine wt (by simpa) ?_|refine wf (by simpa) ?_|refine xt (by simpa) ?_|refine xf (by simpa) ?_|apply wB|apply Qab|refine wX ?_|refine wY ?_|refine wR ?_|refine wK ?_|refine wE ?_)
 simp [Jxv,h1,h2]
end Go.Idl
namespace Go.Idl
open Go
def Qzl (e:Int×Int):Int→List (Int×Int)→Int
 | _,[]=>-1
 | i,x::r=>if x=e then i else Qzl e (i+1) r
theorem Qwx (e:Int×Int):∀ (xs:List (Int×Int)) (i:Int),0≤i→(decide (0≤Qzl e i xs)=xs.any fun x=>decide (x=e))
 | [],i,h=>by simp [Qzl]
 | x::r,i,h=>by
   unfold Qzl
   by_cases hp:x=e
   · simp [hp,h]
   · simp [hp];simpa using Qwx e r (i+1) (by omega)
theorem Quz (e0:Nat) (es:List (Int×Int)) (c:Bool) (e:Int×Int) (he0:e0=2 ∨ es=[]) (hl:es.length≤100000000) (M:List Qac) :
 Ev tb Qwu [] [.lst e0 (eds es) c,.agg [I e.1,I e.2]] M ⟨I (Qzl e 0 es),[],M,[]⟩:=by
 have loop:∀ (m i:Nat),i+m=es.length→wp tb (.loop Jc9) { T:=[(0,.lst e0 (eds es) c),(3,.bptr M.length 0 0),(7,I es.length),(8,I i)],loc:=[[I e.1,I e.2]],M:=M }
  (fun ex st=>(ex=.exit 0∧Qzl e i (es.drop i)=-1∧st={ T:=[(0,.lst e0 (eds es) c),(3,.bptr M.length 0 0),(7,I es.length),(8,I es.length),(9,Bo false)],loc:=[[I e.1,I e.2]],M:=M }) ∨
    (ex=.ret∧st={ T:=[(4,I (Qzl e i (es.drop i)))],loc:=[[I e.1,I e.2]],M:=M })):=by
  intro m
  induction m with
  | zero =>
    intro i hi
    have h3:i=es.length:=hi
    subst h3
    refine wW ?_
    repeat (first|apply wA|apply wS|refine wr (by simp;with_reducible rfl) ?_|refine wq (by simp;with_reducible rfl) ?_|refine wt (by simpa) ?_|refine wf (by simpa) ?_|refine xt (by simpa) ?_|refine xf (by simpa) ?_|apply wB|apply Qab|refine wX ?_|refine wY ?_|refine wR ?_|refine wK ?_|refine wE ?_)
    exact .inl ⟨rfl,by simp [Qzl],rfl⟩
  | succ m ih =>
    intro i hi
    have hi2:i < es.length:=by omega
    have he:e0=2:=by
     rcases he0 with h | h
     · exact h
     · rw [h] at hi2;simp at hi2
    subst he
    have hd:es.drop i=es[i]::es.drop (i+1):=List.drop_eq_getElem_cons hi2
    have w1:IntKind.i64.wrap ((i:Int)+1)=((i+1:Nat):Int):=Qbg (by omega)
    rw [hd]
    by_cases hq:es[i]=e
    · have h1:e.1=es[i].1:=by rw [hq]
      have h2:e.2=es[i].2:=by rw [hq]
      refine wW ?_
      repeat (first|apply wA|apply wS|refine wr (by simp [hi2,h1,h2,w1];with_reducible rfl) ?_|refine wq (by simp [hi2,h1,h2,w1];with_reducible rfl) ?_|refine wt (by simpa [hi2,h1,h2,w1]) ?_|refine wf (by simpa [hi2,h1,h2,w1]) ?_|refine xt (by simpa [hi2,h1,h2,w1]) ?_|refine xf (by simpa [hi2,h1,h2,w1]) ?_|apply wB|apply Qab|refine wX ?_|refine wY ?_|refine wR ?_|refine wK ?_|refine wE ?_)
      exact .inr ⟨rfl,by simp [Qzl,hq]⟩
    · have h3:(e.1 == es[i].1 && e.2 == es[i].2)=false:=by
       rw [← Bool.not_eq_true,Qba,beq_iff_eq,beq_iff_eq]
       rintro ⟨h1,h2⟩
       exact hq (by ext <;> simp [h1,h2])
      have hn:=ih (i+1) (by omega)
      simp only [Qzl,hq,if_false]
      refine wW ?_
      repeat (first|apply wA|apply wS|refine wr (by simp [hi2,h3,w1];with_reducible rfl) ?_|refine wq (by simp [hi2,h3,w1];with_reducible rfl) ?_|refine wt (by simpa [hi2,h3,w1]) ?_|refine wf (by simpa [hi2,h3,w1]) ?_|refine xt (by simpa [hi2,h3,w1]) ?_|refine xf (by simpa [hi2,h3,w1]) ?_|apply wB|apply Qab|refine wX ?_|refine wY ?_|refine wR ?_|refine wK ?_|refine wE ?_)
      exact hn
 refine cW zt269 rfl ?_
 repeat (first|apply wA|apply wS|refine wr (by simp;with_reducible rfl) ?_|refine wq (by simp;with_reducible rfl) ?_|refine wt (by simpa) ?_|refine wf (by simpa) ?_|refine xt (by simpa) ?_|refine xf (by simpa) ?_|apply wB|apply Qab|refine wX ?_|refine wY ?_|refine wR ?_|refine wK ?_|refine wE ?_)
 refine Qah (loop es.length 0 (by simp)) ?_
 rintro ex st (⟨rfl,h,rfl⟩ | ⟨rfl,rfl⟩)
 · try simp only [if_true]
   repeat (first|apply wA|apply wS|refine wr (by simp;with_reducible rfl) ?_|refine wq (by simp;with_reducible rfl) ?_|refine wt (by simpa) ?_|refine wf (by simpa) ?_|refine xt (by simpa) ?_|refine xf (by simpa) ?_|apply wB|apply Qab|refine wX ?_|refine wY ?_|refine wR ?_|refine wK ?_|refine wE ?_)
   simp only [List.drop_zero] at h
   simp [Qxv]
   exact h.symm
 · simp [Qxv]
theorem Qpd (e0:Nat) (es:List (Int×Int)) (c:Bool) (e:Int×Int) (he0:e0=2 ∨ es=[]) (hl:es.length≤100000000) (M:List Qac) :
 Ev tb Qux [] [.lst e0 (eds es) c,.agg [I e.1,I e.2]] M ⟨Bo (es.any fun x=>decide (x=e)),[],M,[]⟩:=by
 have e1:=Qaa (Quz e0 es c e he0 hl [])
 have h:=Qwx e es 0 (by omega)
 refine cW Jyb rfl ?_
 repeat (first|apply wA|apply wS|refine wr (by simp [e1];with_reducible rfl) ?_|refine wq (by simp [e1];with_reducible rfl) ?_|refine wt (by simpa [e1]) ?_|refine wf (by simpa [e1]) ?_|refine xt (by simpa [e1]) ?_|refine xf (by simpa [e1]) ?_|apply wB|apply Qab|refine wX ?_|refine wY ?_|refine wR ?_|refine wK ?_|refine wE ?_)
 simp [Jbh,h]
def Qtv (es:List (Int×Int)) (a b:Int):Bool:=es.any fun x=>decide (x=(min a b,max a b))
theorem Jvo (n:Int) (e0:Nat) (es:List (Int×Int)) (c:Bool) (a b:Int) (he0:e0=2 ∨ es=[]) (hl:es.length≤100000000) (M:List Qac) :
 Ev tb Qng [] [.agg [I n,.lst e0 (eds es) c],I a,I b] M ⟨Bo (Qtv es a b),[],M,[]⟩:=by
 have e1:=Qaa (Qme a b [])
 have e2:=Qaa (Qpd e0 es c (min a b,max a b) he0 hl [])
 refine cW Jyv rfl ?_
 repeat (first|apply wA|apply wS|refine wr (by simp;with_reducible rfl) ?_|refine wq (by simp;with_reducible rfl) ?_|refine wt (by simpa) ?_|refine wf (by simpa) ?_|refine xt (by simpa) ?_|refine xf (by simpa) ?_|apply wB|apply Qab|refine wX ?_|refine wY ?_|refine wR ?_|refine wK ?_|refine wE ?_)
 refine Qe7 (by simp [e1,e2];with_reducible rfl) (by simp;with_reducible rfl) ?_ ?_
 · intro p hp
   simp only [List.mem_cons,List.not_mem_nil,or_false] at hp
   subst hp
   exact ⟨_,by simp [e1,e2];with_reducible rfl,by simp⟩
 repeat (first|apply wA|apply wS|refine wr (by simp;with_reducible rfl) ?_|refine wq (by simp;with_reducible rfl) ?_|refine wt (by simpa) ?_|refine wf (by simpa) ?_|refine xt (by simpa) ?_|refine xf (by simpa) ?_|apply wB|apply Qab|refine wX ?_|refine wY ?_|refine wR ?_|refine wK ?_|refine wE ?_)
 simp [Jca,Qtv]
theorem Jbz (xs:List (Int×Int)):Ev tb Qy1 [] [O2 xs] [] ⟨O2 xs,[],[],[]⟩:=by
 refine cW Jyt rfl ?_
 repeat (first|apply wA|apply wS|refine wr (by simp;with_reducible rfl) ?_|refine wq (by simp;with_reducible rfl) ?_|refine wt (by simpa) ?_|refine wf (by simpa) ?_|refine xt (by simpa) ?_|refine xf (by simpa) ?_|apply wB|apply Qab|refine wX ?_|refine wY ?_|refine wR ?_|refine wK ?_|refine wE ?_)
 simp [Jah]
end Go.Idl
namespace Go.Idl
open Go
theorem Qix (n:Nat) (es:List (Int×Int)) (c:Bool) (hn:n≤1000) (hl:es.length≤1000) (he:Qds n es) :
 Ev tb zl9 [] [Gr n es c] [] ⟨O (Qdu n es),[],[],[]⟩:=by
 have loop:∀ (m i:Nat) (out:List Int) (bs:Qac),i+m=es.length→out.length=n→(∀ x ∈ out,0≤x∧x≤2 * i) →
  wp tb (.loop z9l8) { T:=[(1,.bptr 0 0 0),(3,O out),(10,L2 es c),(11,I es.length),(12,I i)],loc:=[I n,L2 es c]::bs,M:=[] }
  (fun ex st=>ex=.exit 0∧∃ bs',st={ T:=[(1,.bptr 0 0 0),(3,O (Qi3 out (es.drop i))),(10,L2 es c),(11,I es.length),(12,I es.length),(13,Bo false)],loc:=[I n,L2 es c]::bs',M:=[] }):=by
  intro m
  induction m with
  | zero =>
    intro i out bs hi ho hb
    have h3:i=es.length:=hi
    subst h3
    refine wW ?_
    repeat (first|apply wA|apply wS|refine wr (by simp;with_reducible rfl) ?_|refine wq (by simp;with_reducible rfl) ?_|refine wt (by simpa) ?_|refine wf (by simpa) ?_|refine xt (by simpa) ?_|refine xf (by simpa) ?_|apply wB|apply Qab|refine wX ?_|refine wY ?_|refine wR ?_|refine wK ?_|refine wE ?_)
    exact ⟨rfl,bs,by simp [Qi3]⟩
  | succ m ih =>
    intro i out bs hi ho hb
    have hi2:i < es.length:=by omega
    have w1:IntKind.i64.wrap ((i:Int)+1)=((i+1:Nat):Int):=Qbg (by omega)
    have hd:es.drop i=es[i]::es.drop (i+1):=List.drop_eq_getElem_cons hi2
    have hei:=he es[i] (List.getElem_mem hi2)
    obtain ⟨p,q,hpq,hp,hq⟩:∃ p q:Nat,es[i]=((p:Int),(q:Int))∧p < n∧q < n:=⟨es[i].1.toNat,es[i].2.toNat,by ext <;> simp <;> omega,by omega,by omega⟩
    rw [hd,hpq]
    have hpo:p < out.length:=by omega
    have hx:=hb out[p] (List.getElem_mem hpo)
    have w2:IntKind.i64.wrap (out[p]+1)=out[p]+1:=Qae (by omega) (by omega)
    have e1:=Qum hpo
    have b1:=Qlh (i:=p) hb (by omega)
    have l1:=Qgn out p
    have hstep:Qi3 out (((p:Int),(q:Int))::es.drop (i+1))=Qi3 (Qou (Qou out p) q) (es.drop (i+1)):=rfl
    rw [hstep]
    refine wW ?_
    repeat (first|apply wA|apply wS|refine wr (by simp [hi2,hpq];with_reducible rfl) ?_|refine wq (by simp [hi2,hpq];with_reducible rfl) ?_|refine wt (by simpa [hi2,hpq]) ?_|refine wf (by simpa [hi2,hpq]) ?_|refine xt (by simpa [hi2,hpq]) ?_|refine xf (by simpa [hi2,hpq]) ?_|apply wB|apply Qab|refine wX ?_|refine wY ?_|refine wR ?_|refine wK ?_|refine wE ?_)
    refine wr (by simp [hi2,hpq,hpo,w2,← e1];with_reducible rfl) ?_
    generalize Qou out p=out1 at *
    have hqo:q < out1.length:=by omega
    have hx2:=b1 out1[q] (List.getElem_mem hqo)
    have w3:IntKind.i64.wrap (out1[q]+1)=out1[q]+1:=Qae (by omega) (by omega)
    have e2:=Qum hqo
    have b2:=Qlh (i:=q) b1 (by omega)
    have l2:=Qgn out1 q
    refine wq (by simp [hi2,hpq,hqo,w3,← e2];with_reducible rfl) ?_
    repeat (first|apply wA|apply wS|refine wr (by simp [w1];with_reducible rfl) ?_|refine wq (by simp [w1];with_reducible rfl) ?_|refine wt (by simpa [w1]) ?_|refine wf (by simpa [w1]) ?_|refine xt (by simpa [w1]) ?_|refine xf (by simpa [w1]) ?_|apply wB|apply Qab|refine wX ?_|refine wY ?_|refine wR ?_|refine wK ?_|refine wE ?_)
    exact ih (i+1) (Qou out1 q) _ (by omega) (by omega) (fun x hx=>by have:=b2 x hx;omega)
 refine cW zt9 rfl ?_
 repeat (first|apply wA|apply wS|refine wr (by simp [show n≤274877906944 by omega];with_reducible rfl) ?_|refine wq (by simp [show n≤274877906944 by omega];with_reducible rfl) ?_|refine wt (by simpa [show n≤274877906944 by omega]) ?_|refine wf (by simpa [show n≤274877906944 by omega]) ?_|refine xt (by simpa [show n≤274877906944 by omega]) ?_|refine xf (by simpa [show n≤274877906944 by omega]) ?_|apply wB|apply Qab|refine wX ?_|refine wY ?_|refine wR ?_|refine wK ?_|refine wE ?_)
 have:=loop es.length 0 (List.replicate n 0) [] (by simp) (by simp) (by intro x hx;have:=List.eq_of_mem_replicate hx;subst this;simp)
 simp at this
 refine Qah this ?_
 rintro ex st ⟨rfl,bs,rfl⟩
 try simp only [if_true]
 repeat (first|apply wA|apply wS|refine wr (by simp;with_reducible rfl) ?_|refine wq (by simp;with_reducible rfl) ?_|refine wt (by simpa) ?_|refine wf (by simpa) ?_|refine xt (by simpa) ?_|refine xf (by simpa) ?_|apply wB|apply Qab|refine wX ?_|refine wY ?_|refine wR ?_|refine wK ?_|refine wE ?_)
 simp [zi9,Qdu]
theorem Qwi (n:Int):∀ (p:Option (Int×Int)) (es:List (Int×Int)),vEs n p es=true→∀ e ∈ es,okE n e=true
 | _,[],_=>by simp
 | none,e::r,h=>by
   simp only [vEs,Qba] at h
   intro x hx
   rcases List.mem_cons.1 hx with rfl | hx
   · exact h.1
   · exact Qwi n _ r h.2 x hx
 | some q,e::r,h=>by
   simp only [vEs,Qba] at h
   intro x hx
   rcases List.mem_cons.1 hx with rfl | hx
   · exact h.1
   · exact Qwi n _ r h.2.2 x hx
theorem Qrp {n:Int} {es:List (Int×Int)} (h:Qao n es=true):∀ e ∈ es,0≤e.1∧e.1 < e.2∧e.2 < n:=by
 simp only [Qao,Qba] at h
 intro e he
 have:=Qwi n none es h.1 e he
 simpa [okE] using this
theorem Jzx {n:Nat} {es:List (Int×Int)} (h:Qao n es=true):Qds n es:=fun e he=>by
 have:=Qrp h e he;omega
theorem vG_n {n:Int} {es:List (Int×Int)} (h:Qao n es=true):0≤n∧n≤7:=by
 simp only [Qao,Qba,decide_eq_true_eq] at h;omega
theorem Qdz (n:Nat) (es:List (Int×Int)) (c:Bool) (hf:Fit es) (hl:es.length≤1000) (hv:Qao n es=true):Ev tb Qsx [] [Gr n es c] [] ⟨O (Qdu n es),[],[],[]⟩:=by
 have hn:=(vG_n hv).2
 have e1:=Qaa (Qbz n es c hf (by omega))
 have e2:=Qaa (Qix n es c (by omega) hl (Jzx hv))
 refine cW zt161 rfl ?_
 repeat (first|apply wA|apply wS|refine wr (by simp [e1,e2,hv];with_reducible rfl) ?_|refine wq (by simp [e1,e2,hv];with_reducible rfl) ?_|refine wt (by simpa [e1,e2,hv]) ?_|refine wf (by simpa [e1,e2,hv]) ?_|refine xt (by simpa [e1,e2,hv]) ?_|refine xf (by simpa [e1,e2,hv]) ?_|apply wB|apply Qab|refine wX ?_|refine wY ?_|refine wR ?_|refine wK ?_|refine wE ?_)
 simp [Jct]
end Go.Idl
namespace Go.Idl
def S {α:Type} (l:List α) (f:α→Int):Int:=(l.map f).sum
@[simp] theorem S_nil {α:Type} (f:α→Int):S [] f=0:=rfl
@[simp] theorem Qcc {α:Type} (a:α) (l:List α) (f:α→Int):S (a::l) f=f a+S l f:=by simp [S]
theorem Jzd {α:Type} (l k:List α) (f:α→Int):S (l++k) f=S l f+S k f:=by simp [S]
theorem Qyi {α:Type} {l k:List α} (h:l.Perm k) (f:α→Int):S l f=S k f:=Qrh (h.map f)
theorem Qqj {α:Type} (l:List α) (f g:α→Int):S l (fun a=>f a+g a)=S l f+S l g:=by
 induction l with
 | nil=>rfl
 | cons a l ih=>simp only [Qcc,ih];omega
theorem Jvm {α:Type} (l:List α) (f g:α→Int):S l (fun a=>f a - g a)=S l f - S l g:=by
 induction l with
 | nil=>rfl
 | cons a l ih=>simp only [Qcc,ih];omega
theorem Qxz {α:Type} (l:List α):S l (fun _=>0)=0:=by
 induction l with
 | nil=>rfl
 | cons a l ih=>simp [ih]
theorem Qj7 {α:Type} (l:List α) (c:Int):S l (fun _=>c)=l.length * c:=by
 induction l with
 | nil=>simp
 | cons a l ih=>rw [Qcc,ih,List.length_cons,Int.natCast_add,Int.add_mul];simp;omega
theorem Qea {α:Type} {l:List α} {f g:α→Int} (h:∀ a ∈ l,f a=g a):S l f=S l g:=by
 induction l with
 | nil=>rfl
 | cons a l ih=>rw [Qcc,Qcc,h a (by simp),ih fun b hb=>h b (by simp [hb])]
theorem S_le {α:Type} {l:List α} {f g:α→Int} (h:∀ a ∈ l,f a≤g a):S l f≤S l g:=by
 induction l with
 | nil=>simp
 | cons a l ih =>
   have h1:=h a (by simp)
   have h2:=ih fun b hb=>h b (by simp [hb])
   simp only [Qcc];omega
theorem Qrz {α β:Type} (l:List α) (k:List β) (f:α→β→Int):S l (fun a=>S k (f a))=S k (fun b=>S l (fun a=>f a b)):=by
 induction l with
 | nil=>simp [Qxz]
 | cons a l ih=>simp only [Qcc,Qqj,ih]
theorem Jmf {α:Type} (l:List α) (f:α→Int) (c:Int):S l (fun a=>c * f a)=c * S l f:=by
 induction l with
 | nil=>simp
 | cons a l ih=>rw [Qcc,Qcc,ih,Int.mul_add]
theorem Jdh {α:Type} (l:List α) (f:α→Int) (c:Int):S l (fun a=>f a * c)=S l f * c:=by
 induction l with
 | nil=>simp
 | cons a l ih=>rw [Qcc,Qcc,ih,Int.add_mul]
theorem Qhc {α:Type} {l k:List α} (h:l.Sublist k) {f:α→Int} (h0:∀ a ∈ k,0≤f a):S l f≤S k f:=by
 induction h with
 | slnil=>simp
 | cons a _ ih =>
   have h1:=h0 a (by simp)
   have h2:=ih fun b hb=>h0 b (by simp [hb])
   rw [Qcc];omega
 | cons_cons a _ ih =>
   have h2:=ih fun b hb=>h0 b (by simp [hb])
   rw [Qcc,Qcc];omega
theorem Qg2 {α:Type} {l:List α} {f:α→Int} (h:∀ a ∈ l,0≤f a):0≤S l f:=by
 have:=S_le (l:=l) (f:=fun _=>0) h
 rwa [Qxz] at this
theorem Jcz {α:Type} (l:List α) (p:α→Bool) (f:α→Int):S (l.filter p) f+S (l.filter fun a=>!p a) f=S l f:=by
 induction l with
 | nil=>rfl
 | cons a l ih =>
   cases hp:p a with
   | true=>simp only [List.filter_cons,hp,if_true,Bool.not_true,Bool.false_eq_true,if_false,Qcc];omega
   | false=>simp only [List.filter_cons,hp,if_true,Bool.not_false,Bool.false_eq_true,if_false,Qcc];omega
theorem Qop {α β:Type} {f:α→β} {ys zs:List β} (h:ys.Perm zs):∀ {l:List α},zs=l.map f→∃ l':List α,l'.Perm l∧ys=l'.map f:=by
 induction h with
 | nil=>intro l hl;exact ⟨l,.refl _,hl⟩
 | cons x _ ih =>
   intro l hl
   cases l with
   | nil=>simp at hl
   | cons a l =>
     simp only [List.map_cons,List.cons.injEq] at hl
     obtain ⟨l',h1,h2⟩:=ih hl.2
     exact ⟨a::l',h1.cons a,by rw [List.map_cons,← h2,hl.1]⟩
 | swap x y r =>
   intro l hl
   cases l with
   | nil=>simp at hl
   | cons a l =>
     cases l with
     | nil=>simp at hl
     | cons b l =>
       simp only [List.map_cons,List.cons.injEq] at hl
       exact ⟨b::a::l,.swap a b l,by simp [hl.1,hl.2.1,hl.2.2]⟩
 | trans _ _ ih1 ih2 =>
   intro l hl
   obtain ⟨l2,h1,h2⟩:=ih2 hl
   obtain ⟨l3,h3,h4⟩:=ih1 h2
   exact ⟨l3,h3.trans h1,h4⟩
theorem Jba {α:Type} [DecidableEq α] {l:List α} (h:l.Nodup) (x:α):S l (fun a=>if x=a then 1 else 0)=if x ∈ l then 1 else 0:=by
 induction l with
 | nil=>simp
 | cons a l ih =>
   have h':=List.nodup_cons.1 h
   rw [Qcc,ih h'.2]
   by_cases hx:x=a
   · subst hx;simp [h'.1]
   · simp [hx]
theorem Qhj (a b:Int×Int):Qan a b=true ↔ a.1 < b.1 ∨ (a.1=b.1∧a.2 < b.2):=by simp [Qan]
theorem Qc6 {a b c:Int×Int} (h:Qan a b=true) (k:Qan b c=true):Qan a c=true:=by
 rw [Qhj] at *;omega
theorem Qjb {a b:Int×Int} (h:Qan a b=true):a ≠ b:=by
 rintro rfl;rw [Qhj] at h;omega
abbrev PW (es:List (Int×Int)):Prop:=es.Pairwise fun a b=>Qan a b=true
theorem Qwr (n:Int):∀ (p:Option (Int×Int)) (es:List (Int×Int)),vEs n p es=true→PW es∧(∀ q,p=some q→∀ e ∈ es,Qan q e=true)
 | p,[],_=>⟨.nil,by simp⟩
 | none,e::r,h=>by
   simp only [vEs,Qba] at h
   obtain ⟨h1,h2⟩:=Qwr n (some e) r h.2
   exact ⟨List.pairwise_cons.2 ⟨h2 e rfl,h1⟩,by simp⟩
 | some q,e::r,h=>by
   simp only [vEs,Qba] at h
   obtain ⟨h1,h2⟩:=Qwr n (some e) r h.2.2
   refine ⟨List.pairwise_cons.2 ⟨h2 e rfl,h1⟩,fun q' hq' x hx=>?_⟩
   cases hq'
   rcases List.mem_cons.1 hx with rfl | hx
   · exact h.2.1
   · exact Qc6 h.2.1 (h2 e rfl x hx)
theorem Qw8 (n:Int):∀ (p:Option (Int×Int)) (es:List (Int×Int)),PW es→(∀ q,p=some q→∀ e ∈ es,Qan q e=true)→(∀ e ∈ es,okE n e=true)→vEs n p es=true
 | p,[],_,_,_=>by cases p <;> rfl
 | none,e::r,h,_,ho=>by
   have h':=List.pairwise_cons.1 h
   simp only [vEs,Qba]
   exact ⟨ho e (by simp),Qw8 n (some e) r h'.2 (fun q hq x hx=>by cases hq;exact h'.1 x hx) fun x hx=>ho x (by simp [hx])⟩
 | some q,e::r,h,hq,ho=>by
   have h':=List.pairwise_cons.1 h
   simp only [vEs,Qba]
   exact ⟨ho e (by simp),hq q rfl e (by simp),Qw8 n (some e) r h'.2 (fun q hq x hx=>by cases hq;exact h'.1 x hx) fun x hx=>ho x (by simp [hx])⟩
theorem Qd3 (a:Nat):∀ (m b:Nat) (e:Int×Int),e ∈ row a b m ↔ e.1=a∧(b:Int)≤e.2∧e.2 < b+m
 | 0,b,e=>by simp [row] <;> omega
 | m+1,b,e=>by
   rw [row,List.mem_cons,Qd3 a m (b+1) e]
   constructor
   · rintro (rfl | h)
     · simp;omega
     · omega
   · intro h
     by_cases h2:e.2=b
     · exact .inl (Prod.ext h.1 h2)
     · exact .inr (by omega)
theorem Qew:∀ (m a:Nat) (e:Int×Int),e ∈ Qsc a m ↔ (a:Int)≤e.1∧e.1 < e.2∧e.2 < a+m
 | 0,a,e=>by simp [Qsc];omega
 | m+1,a,e=>by
   rw [Qsc,List.mem_append,Qd3,Qew m (a+1) e]
   omega
theorem Qak {n:Nat} {e:Int×Int}:e ∈ prs n ↔ 0≤e.1∧e.1 < e.2∧e.2 < n:=by
 rw [prs,Qew];omega
theorem Jd4 (a:Nat):∀ (m b:Nat),PW (row a b m)
 | 0,b=>.nil
 | m+1,b=>by
   rw [row]
   refine List.pairwise_cons.2 ⟨fun e he=>?_,Jd4 a m (b+1)⟩
   rw [Qd3] at he
   rw [Qhj];simp only;omega
theorem Qx0:∀ (m a:Nat),PW (Qsc a m)
 | 0,a=>.nil
 | m+1,a=>by
   rw [Qsc]
   refine List.pairwise_append.2 ⟨Jd4 a m (a+1),Qx0 m (a+1),fun x hx y hy=>?_⟩
   rw [Qd3] at hx
   rw [Qew] at hy
   rw [Qhj];omega
theorem Jrx (n:Nat):PW (prs n):=Qx0 n 0
theorem Qhf {es:List (Int×Int)} (h:PW es):es.Nodup:=h.imp fun h=>Qjb h
theorem Qw9 {xs ys:List (Int×Int)} (hx:PW xs) (hy:PW ys) (h:∀ e,e ∈ xs ↔ e ∈ ys):xs=ys:=by
 refine List.Perm.eq_of_pairwise (le:=fun a b=>Qan a b=true) (fun a b _ _ h1 h2=>absurd (Qc6 h1 h2) (fun h=>Qjb h rfl)) hx hy ?_
 exact (List.perm_ext_iff_of_nodup (Qhf hx) (Qhf hy)).2 h
theorem Qar {n:Nat} {es:List (Int×Int)}:Qao n es=true ↔ PW es∧(∀ e ∈ es,e ∈ prs n)∧n≤7:=by
 constructor
 · intro h
   have h1:=vG_n h
   have h2:=Qrp h
   simp only [Qao,Qba] at h
   exact ⟨(Qwr n none es h.1).1,fun e he=>Qak.2 (h2 e he),by omega⟩
 · rintro ⟨h1,h2,h3⟩
   simp only [Qao,Qba,decide_eq_true_eq]
   refine ⟨Qw8 n none es h1 (by simp) fun e he=>?_,by omega,by omega⟩
   have:=Qak.1 (h2 e he)
   simp only [okE,Qba,decide_eq_true_eq];omega
theorem Qzg {n:Nat} {es:List (Int×Int)} (h:Qao n es=true):es=(prs n).filter fun e=>decide (e ∈ es):=by
 obtain ⟨h1,h2,h3⟩:=Qar.1 h
 refine Qw9 h1 ((Jrx n).filter _) fun e=>?_
 rw [List.mem_filter,decide_eq_true_eq]
 exact ⟨fun he=>⟨h2 e he,he⟩,fun he=>he.2⟩
theorem Qwl {n:Nat} {es:List (Int×Int)} (h:Qao n es=true):es.Sublist (prs n):=by
 rw [Qzg h];exact List.filter_sublist
def inc (v:Nat) (e:Int×Int):Int:=(if e.1=v then 1 else 0)+(if e.2=v then 1 else 0)
def deg (es:List (Int×Int)) (v:Nat):Int:=S es (inc v)
theorem Qrl {o:List Int} {i v:Nat} (hv:v < o.length):(Qou o i).getD v 0=o.getD v 0+(if i=v then 1 else 0):=by
 rw [Qou,List.getD_eq_getElem?_getD,List.getElem?_set]
 by_cases h:i=v
 · subst h;simp [hv,List.getD_eq_getElem?_getD]
 · simp [h,List.getD_eq_getElem?_getD]
theorem Qo7 {n:Nat}:∀ (es:List (Int×Int)) (o:List Int),(∀ e ∈ es,0≤e.1∧0≤e.2)→∀ v,v < o.length→(Qi3 o es).getD v 0=o.getD v 0+deg es v
 | [],o,_,v,_=>by simp [Qi3,deg]
 | e::es,o,h,v,hv=>by
   have h1:=h e (by simp)
   have:=Qo7 (n:=n) es (Qou (Qou o e.1.toNat) e.2.toNat) (fun x hx=>h x (by simp [hx])) v (by simp [Qgn];exact hv)
   rw [show Qi3 o (e::es)=Qi3 (Qou (Qou o e.1.toNat) e.2.toNat) es from rfl,this,Qrl (by rw [Qgn];exact hv),Qrl hv,deg,deg,Qcc]
   have c1:(e.1.toNat=v)=(e.1=(v:Int)):=by rw [eq_iff_iff];omega
   have c2:(e.2.toNat=v)=(e.2=(v:Int)):=by rw [eq_iff_iff];omega
   simp only [inc,c1,c2]
   omega
theorem Qga {n:Nat} {es:List (Int×Int)} (h:Qds n es):Qdu n es=(List.range n).map (deg es):=by
 have hl:(Qdu n es).length=n:=by rw [Qdu,Qdx];simp
 refine List.ext_getElem (by simp [hl]) fun v h1 h2=>?_
 have:=Qo7 (n:=n) es (List.replicate n 0) (fun e he=>by have:=h e he;omega) v (by simp;omega)
 rw [← Qdu,List.getD_eq_getElem?_getD,List.getElem?_eq_getElem h1] at this
 simp only [Option.getD_some] at this
 rw [this]
 simp [List.getD_eq_getElem?_getD]
 rw [List.getElem?_eq_getElem (by simp;omega)];simp
theorem Jot {n:Nat} {e:Int×Int} (h:e ∈ prs n) {l:List Nat} (hl:l.Perm (List.range n)):S l (fun v=>inc v e)=2:=by
 have h0:=Qak.1 h
 have key:∀ x:Int,0≤x→x < n→S l (fun v=>if x=(v:Int) then 1 else 0)=1:=by
  intro x hx hxn
  obtain ⟨k,rfl⟩:=Int.eq_ofNat_of_zero_le hx
  have:∀ v ∈ l,(if (k:Int)=(v:Int) then (1:Int) else 0)=if k=v then 1 else 0:=fun v _=>by simp only [Int.ofNat_inj]
  rw [Qea this,Jba (hl.nodup_iff.2 List.nodup_range),if_pos (hl.mem_iff.2 (List.mem_range.2 (by omega)))]
 simp only [inc]
 rw [Qqj,key _ (by omega) (by omega),key _ (by omega) (by omega)]
 rfl
theorem Qlm {n:Nat} {es:List (Int×Int)} (h:∀ e ∈ es,e ∈ prs n):(Qdu n es).sum=2 * es.length:=by
 rw [Qga fun e he=>by have:=Qak.1 (h e he);omega]
 show S (List.range n) (fun v=>S es (fun e=>inc v e))=_
 rw [Qrz,Qea (g:=fun _=>2) fun e he=>Jot (h e he) (.refl _),Qj7]
 omega
theorem Qpm:(List.range 8).all (fun n=>(List.range n).all fun v=>decide (deg (prs n) v=(n:Int) - 1))=true:=by decide +kernel
theorem Jgk {n v:Nat} (hn:n≤7) (hv:v < n):deg (prs n) v=(n:Int) - 1:=by
 have:=List.all_eq_true.1 (List.all_eq_true.1 Qpm n (List.mem_range.2 (by omega))) v (List.mem_range.2 hv)
 exact of_decide_eq_true this
def adj (e:Int×Int) (a b:Nat):Int:=(if e.1=a then 1 else 0) * (if e.2=b then 1 else 0)+(if e.2=a then 1 else 0) * (if e.1=b then 1 else 0)
theorem Jfn:(List.range 8).all (fun n=>(List.range n).all fun a=>(List.range n).all fun b=>decide (S (prs n) (fun e=>adj e a b)=if a=b then 0 else 1))=true:=by decide +kernel
theorem Jf8 {n a b:Nat} (hn:n≤7) (ha:a < n) (hb:b < n):S (prs n) (fun e=>adj e a b)=if a=b then 0 else 1:=by
 have:=List.all_eq_true.1 (List.all_eq_true.1 (List.all_eq_true.1 Jfn n (List.mem_range.2 (by omega))) a (List.mem_range.2 ha)) b (List.mem_range.2 hb)
 exact of_decide_eq_true this
theorem Jcv {l:List Nat} (h:l.Nodup) (x:Int):S l (fun v=>if x=(v:Int) then 1 else 0)=0 ∨ S l (fun v=>if x=(v:Int) then 1 else 0)=1:=by
 by_cases hx:0≤x
 · obtain ⟨k,rfl⟩:=Int.eq_ofNat_of_zero_le hx
   have:∀ v ∈ l,(if (k:Int)=(v:Int) then (1:Int) else 0)=if k=v then 1 else 0:=fun v _=>by simp only [Int.ofNat_inj]
   rw [Qea this,Jba h]
   split
   · exact .inr rfl
   · exact .inl rfl
 · refine .inl ?_
   rw [Qea (g:=fun _=>0) fun v _=>if_neg (by omega),Qxz]
theorem Jbn {n k m:Nat} {es:List (Int×Int)} (h:Qao n es=true) {π:List Nat} (hπ:π.Perm (List.range n)) (hkm:k≤m) (hm:m≤n) :
 S (π.take k) (deg es)+S (π.take m) (deg es)≤(k:Int) * ((m:Int) - 1)+S π (deg es):=by
 have hn:=(Qar.1 h).2.2
 have hin:=(Qar.1 h).2.1
 have hnd:π.Nodup:=hπ.nodup_iff.2 List.nodup_range
 have hπl:π.length=n:=by rw [hπ.length_eq,List.length_range]
 have hlt:∀ v ∈ π,v < n:=fun v hv=>List.mem_range.1 (hπ.mem_iff.1 hv)
 obtain ⟨A,hA⟩:∃ A,A=π.take k:=⟨_,rfl⟩
 obtain ⟨B,hB⟩:∃ B,B=π.take m:=⟨_,rfl⟩
 have hAB:A.Sublist B:=by
  rw [hA,hB,show π.take k=(π.take m).take k by rw [List.take_take,Nat.min_eq_left hkm]]
  exact List.take_sublist _ _
 have hBn:B.Nodup:=by rw [hB];exact hnd.sublist (List.take_sublist _ _)
 have hAn:A.Nodup:=hBn.sublist hAB
 have hBl:B.length=m:=by rw [hB,List.length_take];omega
 have hAl:A.length=k:=by rw [hA,List.length_take];omega
 have hBm:∀ v ∈ B,v < n:=fun v hv=>hlt v (by rw [hB] at hv;exact List.mem_of_mem_take hv)
 rw [← hA,← hB]
 have sw:∀ l:List Nat,S l (deg es)=S es (fun e=>S l (fun v=>inc v e)):=fun l=>Qrz l es fun v e=>inc v e
 have hw:S es (fun e=>S A (fun a=>S B (fun b=>adj e a b)))≤(k:Int) * ((m:Int) - 1):=by
  refine Int.le_trans (Qhc (Qwl h) (f:=fun e=>S A (fun a=>S B (fun b=>adj e a b))) fun e _=>Qg2 fun a _=>Qg2 fun b _=>?_) ?_
  · simp only [adj]
    split <;> split <;> split <;> split <;> decide
  · rw [Qrz]
    have:∀ a ∈ A,S (prs n) (fun e=>S B (fun b=>adj e a b))=(m:Int) - 1:=fun a ha=>by
     have ha':=hAB.mem ha
     rw [Qrz,Qea (g:=fun b=>1 - (if a=b then 1 else 0)) fun b hb=>by
      rw [Jf8 hn (hBm a ha') (hBm b hb)];split <;> rfl]
     rw [Jvm,Qj7,Jba hBn,if_pos ha',hBl];omega
    rw [Qea this,Qj7,hAl]
    exact Int.le_refl _
 have he:∀ e ∈ es,S A (fun v=>inc v e)+S B (fun v=>inc v e) - 2≤S A (fun a=>S B (fun b=>adj e a b)):=fun e he=>by
  have hwe:S A (fun a=>S B (fun b=>adj e a b))=S A (fun v=>if e.1=(v:Int) then 1 else 0) * S B (fun v=>if e.2=(v:Int) then 1 else 0)+S A (fun v=>if e.2=(v:Int) then 1 else 0) * S B (fun v=>if e.1=(v:Int) then 1 else 0):=by
   rw [← Jdh,← Jdh,← Qqj]
   refine Qea fun a _=>?_
   rw [← Jmf,← Jmf,← Qqj]
   rfl
  rw [hwe]
  simp only [inc]
  rw [Qqj,Qqj]
  have m1:S A (fun v=>if e.1=(v:Int) then 1 else 0)≤S B (fun v=>if e.1=(v:Int) then 1 else 0):=Qhc hAB fun v _=>by split <;> decide
  have m2:S A (fun v=>if e.2=(v:Int) then 1 else 0)≤S B (fun v=>if e.2=(v:Int) then 1 else 0):=Qhc hAB fun v _=>by split <;> decide
  rcases Jcv hAn e.1 with h1 | h1 <;> rcases Jcv hAn e.2 with h2 | h2 <;> rcases Jcv hBn e.1 with h3 | h3 <;> rcases Jcv hBn e.2 with h4 | h4 <;> rw [h1,h3] at m1 <;> rw [h2,h4] at m2 <;> rw [h1,h2,h3,h4] <;> omega
 have hs:=S_le he
 rw [Jvm,Qqj,Qj7] at hs
 have h2:S π (deg es)=es.length * 2:=by
  rw [sw,Qea (g:=fun _=>2) fun e he=>Jot (hin e he) hπ,Qj7]
 rw [sw A,sw B,h2]
 omega
theorem Qs1 {n:Nat} {es:List (Int×Int)} (h:Qao n es=true):Qgw (Qdu n es)=true:=by
 obtain ⟨h1,h2,hn⟩:=Qar.1 h
 have hE:Qds n es:=fun e he=>by have:=Qak.1 (h2 e he);omega
 rw [Qga hE]
 simp only [Qgw,Qba,decide_eq_true_eq,List.all_eq_true,List.length_map,List.length_range]
 refine ⟨hn,fun x hx=>?_⟩
 obtain ⟨v,hv,rfl⟩:=List.mem_map.1 hx
 have hv:=List.mem_range.1 hv
 have hi:∀ e:Int×Int,0≤inc v e:=fun e=>by simp only [inc];split <;> split <;> decide
 have h3:deg es v≤deg (prs n) v:=Qhc (Qwl h) fun e _=>hi e
 have h4:0≤deg es v:=Qg2 fun e _=>hi e
 have:=Jgk hn hv
 omega
theorem Qo8 {n:Nat} {es:List (Int×Int)} (h:Qao n es=true):Qc7 (Qdu n es)=true:=by
 obtain ⟨h1,h2,hn⟩:=Qar.1 h
 have hE:Qds n es:=fun e he=>by have:=Qak.1 (h2 e he);omega
 have hs:=Qlm h2
 have hde:=Qga hE
 obtain ⟨π,hπ,hfp⟩:=Qop (f:=deg es) (Qe9 (Qdu n es)) (l:=List.range n) hde
 refine (Qp1 _).2 ⟨Qs1 h,by omega,fun k m hk hkm hm=>?_⟩
 rw [show (Qdu n es).length=n by rw [hde];simp] at hm
 have:=Jbn h hπ hkm hm
 have hsum:(Qdu n es).sum=S π (deg es):=by rw [hde];exact Qyi hπ.symm _
 simp only [Jxr,hfp,hsum]
 rw [← List.map_take,← List.map_take]
 exact this
end Go.Idl
namespace Go.Idl
open Go
def Qcx (X:List (Int×Int)) (a b:Nat):Prop:=∀ k l e f,a≤k→k < l→l < b→X[k]? = some e→X[l]? = some f→Qan e f=true
def Qi0 (X:List (Int×Int)) (a mid b:Nat):Prop:=∀ k l e f,a≤k→k < mid→mid≤l→l < b→X[k]? = some e→X[l]? = some f→Qan e f=true
theorem Qrq {X Y:List (Int×Int)} {a mid b:Nat} (hn:X.Nodup) (h1:Qcx X a mid) (hc:Qi0 X a mid b) (hs:Seg X Y mid b) (h2:Qcx Y mid b):Qcx Y a b:=by
 intro k l e f hk hkl hl he hf
 by_cases h:mid≤k
 · exact h2 k l e f h hkl hl he hf
 · have he':X[k]? = some e:=by rw [← hs.out k (by omega)];exact he
   by_cases h':mid≤l
   · obtain ⟨l',hl',hf'⟩:=hs.back hn ⟨h',hl⟩ hf
     exact hc k l' e f hk (by omega) (by omega) (by omega) he' hf'
   · have hf':X[l]? = some f:=by rw [← hs.out l (by omega)];exact hf
     exact h1 k l e f hk hkl (by omega) he' hf'
theorem Qoc {X Y:List (Int×Int)} {a mid b:Nat} (hn:X.Nodup) (h1:Qcx X mid b) (hc:Qi0 X a mid b) (hs:Seg X Y a mid) (h2:Qcx Y a mid):Qcx Y a b:=by
 intro k l e f hk hkl hl he hf
 by_cases h:l < mid
 · exact h2 k l e f hk hkl h he hf
 · have hf':X[l]? = some f:=by rw [← hs.out l (by omega)];exact hf
   by_cases h':k < mid
   · obtain ⟨k',hk',he'⟩:=hs.back hn ⟨hk,h'⟩ he
     exact hc k' l e f (by omega) (by omega) (by omega) hl he' hf'
   · have he':X[k]? = some e:=by rw [← hs.out k (by omega)];exact he
     exact h1 k l e f (by omega) hkl hl he' hf'
theorem Qru (a b c:Int×Int) (h1:Qan b a=false) (h2:Qan c b=false):Qan c a=false:=by
 rw [← Bool.not_eq_true] at *
 simp only [Qan,Bool.or_eq_true,Qba,decide_eq_true_eq] at *
 omega
theorem Jbk (X:List (Int×Int)) (hX:∀ x ∈ X,DE x) (hn:X.Nodup) (hl:X.length≤700000) (a n:Nat) (hab:a+n≤X.length) (M:List Qac) :
 ∃ X':List (Int×Int),Seg X X' a (a+n)∧Qcx X' a (a+n)∧Ev tb Qt9 [0] [O2 X,I a,I ((a:Int)+n),fcE] M ⟨.tup [],[O2 X'],M,[]⟩:=by
 have hc:Qz7 vE Qzo [] Qan DE M:=fun x y hx hy=>⟨Qnb x y,Qb1 x y,Qer hx hy _⟩
 obtain ⟨P,hP⟩:∃ P,P=X.take a:=⟨_,rfl⟩
 obtain ⟨S,hS⟩:∃ S,S=(X.drop a).take n:=⟨_,rfl⟩
 obtain ⟨Q,hQ⟩:∃ Q,Q=X.drop (a+n):=⟨_,rfl⟩
 have hXe:X=P++(S++Q):=by
  rw [hP,hS,hQ,← List.drop_drop,List.take_append_drop,List.take_append_drop]
 have hPl:P.length=a:=by rw [hP,List.length_take];omega
 have hSl:S.length=n:=by rw [hS,List.length_take,List.length_drop];omega
 have hsrt:=Qp4 (lt:=Qan) Qru (fun a b h=>Qgb h) S [] .nil
 have hsp:=hsrt.2
 rw [List.nil_append] at hsp
 have hTl:(Qne Qan [] S).length=n:=by rw [hsp.length_eq,hSl]
 have hp:(P++(Qne Qan [] S++Q)).Perm X:=by
  rw [hXe];exact List.Perm.append_left P (hsp.append_right Q)
 refine ⟨P++(Qne Qan [] S++Q),⟨hp,fun k hk=>?_⟩,?_,?_⟩
 · rw [hXe]
   rcases hk with hk | hk
   · rw [List.getElem?_append_left (by omega),List.getElem?_append_left (by omega)]
   · rw [List.getElem?_append_right (by omega),List.getElem?_append_right (by omega),List.getElem?_append_right (by omega),List.getElem?_append_right (by omega),hTl,hSl]
 · intro k l e f hk hkl hlb he hf
   have hny:(P++(Qne Qan [] S++Q)).Nodup:=hp.nodup_iff.2 hn
   have hne:e ≠ f:=by
    rintro rfl
    obtain ⟨h1,h2⟩:=List.getElem?_eq_some_iff.1 he
    obtain ⟨h3,h4⟩:=List.getElem?_eq_some_iff.1 hf
    have:=(List.getElem_inj hny).1 (h2.trans h4.symm)
    omega
   rw [List.getElem?_append_right (by omega),List.getElem?_append_left (by omega)] at he hf
   obtain ⟨h1,h2⟩:=List.getElem?_eq_some_iff.1 he
   obtain ⟨h3,h4⟩:=List.getElem?_eq_some_iff.1 hf
   have:=List.pairwise_iff_getElem.1 hsrt.1 _ _ h1 h3 (by omega)
   rw [h2,h4] at this
   rcases Qca hne with h | h
   · exact h
   · rw [this] at h;cases h
 · have e:=Jan Qzo [] Qan DE M hc P Q S (by rw [hXe] at hl;simp at hl;omega) (fun x hx=>hX x (by rw [hXe];simp [hx]))
   rw [← hXe,hPl,hSl,show ((a+n:Nat):Int)=(a:Int)+n by omega] at e
   exact e
def Qrv (n:Nat) (lim:Nat) (M:List Qac):Prop:=∀ (n' a':Nat) (X:List (Int×Int)),n'+2≤n→(∀ x ∈ X,DE x)→X.Nodup→X.length≤700000→a'+n'≤X.length→(a'=0 ∨ ∀ k e f,a'≤k→k < a'+n'→X[a' - 1]? = some e→X[k]? = some f→Qan e f=true) →
 ∃ X':List (Int×Int),Seg X X' a' (a'+n')∧Qcx X' a' (a'+n')∧Qco tb Qmz [0] [O2 X,I a',I ((a':Int)+n'),I lim,fcE] M=some ⟨.tup [],[O2 X'],M,[]⟩
abbrev cD:IC:=(.seq Qwf (.seq Qzc (.seq Qvj (.seq Qxm (.seq Qw7 (.cond (.t 125) (.seq Qv7 (.seq Qur Qv3)) (.seq Qxp (.seq Qyd Qvg))))))))
set_option maxHeartbeats 2000000 in
theorem pdq_D (X:List (Int×Int)) (hX:∀ x ∈ X,DE x) (hn:X.Nodup) (hl:X.length≤700000) (a n m lim:Nat) (h13:13≤n) (h21:n≤21) (hab:a+n≤X.length) (hm:a≤m∧m < a+n) (M:List Qac) (hrec:Qrv n lim (M++[[]]))
 (h0:a=0 ∨ ∀ k e f,a≤k→k < a+n→X[a - 1]? = some e→X[k]? = some f→Qan e f=true)
 (p1:∃ p,(a≤p∧p < a+n)∧∀ h1 h2,Qan (X[p]'h1) (X[m]'h2)=true) (p2:∃ p,(a≤p∧p < a+n)∧∀ h1 h2,Qan (X[m]'h1) (X[p]'h2)=true)
 (bal part:Bool) (Q:Ex→St→Prop)
 (hL:∀ (X3:List (Int×Int)) (mid:Nat) (bal part:Bool),a < mid→mid+1 < a+n→Seg X X3 a (a+n)→Qcx X3 a (mid+1)→Qi0 X3 a (mid+1) (a+n) →
   Q .normal { T:=[(0,O2 X3),(1,I (mid+1:Nat)),(2,I ((a:Int)+n)),(3,I lim),(4,fcE),(10,Bo bal),(11,Bo part)],loc:=[],M:=M })
 (hR:∀ (X3:List (Int×Int)) (mid:Nat) (bal part:Bool),a < mid→mid+1 < a+n→Seg X X3 a (a+n)→Qcx X3 mid (a+n)→Qi0 X3 a mid (a+n) →
   Q .normal { T:=[(0,O2 X3),(1,I a),(2,I mid),(3,I lim),(4,fcE),(10,Bo bal),(11,Bo part)],loc:=[],M:=M }) :
 wp tb cD { T:=[(0,O2 X),(1,I a),(2,I ((a:Int)+n)),(3,I lim),(4,fcE),(10,Bo bal),(11,Bo part),(12,I n),(13,I m),(97,Bo false)],loc:=[],M:=M } Q:=by
 obtain ⟨X2,mid,t,hS,hmid,hpv,hcut,hE⟩:=Qpc X hX (by omega) a n m (by omega) hab hm (M++[[]])
 have e1:=Qaa hE
 have hml:m < X.length:=by omega
 rw [List.getElem?_eq_getElem hml] at hpv hcut
 obtain ⟨hlo,hhi⟩:=hcut _ rfl
 have hl2:=hS.len
 have hn2:=hS.nodup hn
 have hX2:∀ x ∈ X2,DE x:=fun x hx=>hX x (hS.perm.mem_iff.1 hx)
 obtain ⟨p,hp,hp1⟩:=p1
 obtain ⟨q,hq,hq1⟩:=p2
 have hpl:p < X.length:=by omega
 have hql:q < X.length:=by omega
 have hp1:=hp1 hpl hml
 have hq1:=hq1 hml hql
 have whereIs:∀ r,(a≤r∧r < a+n)→∀ hr:r < X.length,∃ r',(a≤r'∧r' < a+n)∧X2[r']? = some X[r]:=fun r hr hrl=>by
  have hm2:X[r] ∈ X2:=hS.perm.mem_iff.2 (List.getElem_mem hrl)
  obtain ⟨r',hr',he⟩:=List.getElem_of_mem hm2
  refine ⟨r',?_,by rw [List.getElem?_eq_getElem hr',he]⟩
  refine Classical.byContradiction fun hno=>?_
  have h1:=hS.out r' (by omega)
  rw [List.getElem?_eq_getElem hr',he] at h1
  obtain ⟨h2,h3⟩:=List.getElem?_eq_some_iff.1 h1.symm
  have:=(List.getElem_inj hn).1 h3
  omega
 obtain ⟨p',hp',hpe⟩:=whereIs p hp hpl
 obtain ⟨q',hq',hqe⟩:=whereIs q hq hql
 have hamid:a < mid:=by
  refine Classical.byContradiction fun hno=>?_
  have hma:mid=a:=by omega
  by_cases hpm:p'=mid
  · rw [hpm,hpv] at hpe
    exact Qjb hp1 (Option.some.inj hpe).symm
  · have:=hhi p' _ (by omega) hp'.2 hpe
    rw [hp1] at this;cases this
 have hmidb:mid+1 < a+n:=by
  refine Classical.byContradiction fun hno=>?_
  have hma:mid+1=a+n:=by omega
  by_cases hpm:q'=mid
  · rw [hpm,hpv] at hqe
    exact Qjb hq1 (Option.some.inj hqe)
  · have:=hlo q' _ hq'.1 (by omega) hqe
    rw [Qgb hq1] at this;cases this
 have hhi':∀ k e,mid < k→k < a+n→X2[k]? = some e→Qan X[m] e=true:=fun k e k1 k2 he=>by
  have h1:=hhi k e (by omega) k2 he
  have hne:X[m] ≠ e:=by
   rintro rfl
   obtain ⟨h2,h3⟩:=List.getElem?_eq_some_iff.1 he
   obtain ⟨h4,h5⟩:=List.getElem?_eq_some_iff.1 hpv
   have:=(List.getElem_inj hn2).1 (h3.trans h5.symm)
   omega
  rcases Qca hne with h | h
  · exact h
  · rw [h1] at h;cases h
 have hcutm:Qi0 X2 a mid (a+n):=fun k l e f k1 k2 k3 k4 he hf=>by
  have h1:=hlo k e k1 k2 he
  by_cases hlm:l=mid
  · rw [hlm,hpv] at hf;cases hf;exact h1
  · exact Qc6 h1 (hhi' l f (by omega) k4 hf)
 have hcutm':Qi0 X2 a (mid+1) (a+n):=fun k l e f k1 k2 k3 k4 he hf=>by
  by_cases hkm:k=mid
  · rw [hkm,hpv] at he;cases he;exact hhi' l f (by omega) k4 hf
  · exact hcutm k l e f k1 (by omega) (by omega) k4 he hf
 obtain ⟨n1,hn1⟩:∃ n1,mid=a+n1:=⟨mid - a,by omega⟩
 obtain ⟨n2,hn2'⟩:∃ n2,n=n1+1+n2:=⟨n - (n1+1),by omega⟩
 have w1:IntKind.i64.wrap ((mid:Int) - a)=(n1:Int):=by rw [Qae (by omega) (by omega)];omega
 have w2:IntKind.i64.wrap ((a:Int)+n - mid)=((n2+1:Nat):Int):=by rw [Qae (by omega) (by omega)];omega
 have t1:(n:Int).tdiv 8=((n / 8:Nat):Int):=by rw [Int.tdiv_eq_ediv_of_nonneg (by omega)];rfl
 obtain ⟨th,hth⟩:∃ th,th=n / 8:=⟨_,rfl⟩
 rw [← hth] at t1
 have w3:IntKind.i64.wrap (th:Int)=(th:Int):=Qae (by omega) (by omega)
 have w4:IntKind.i64.wrap ((mid:Int)+1)=(mid:Int)+1:=Qae (by omega) (by omega)
 by_cases hc:(n1:Int) < ((n2+1:Nat):Int)
 · obtain ⟨X3,hS3,hsr,e2⟩:=hrec n1 a X2 (by omega) hX2 hn2 (by omega) (by omega) (by
    rcases h0 with h0 | h0
    · exact .inl h0
    · by_cases ha:a=0
      · exact .inl ha
      · refine .inr fun k e f k1 k2 he hf=>?_
        rw [hS.out (a - 1) (by omega)] at he
        obtain ⟨k',hk',hf'⟩:=hS.back hn ⟨k1,by omega⟩ hf
        exact h0 k' e f hk'.1 hk'.2 he hf')
   rw [show (a:Int)+n1=(mid:Int) by omega] at e2
   have hfin:=hL X3 mid (decide (th≤n1)) t hamid hmidb (hS.trans (hS3.mono (Nat.le_refl _) (by omega))) (Qoc hn2 (fun k l e f k1 k2 k3=>by omega) (fun k l e f k1 k2 k3 k4=>hcutm k l e f k1 (by omega) k3 (by omega)) (by rw [← hn1] at hS3;exact hS3) (by rw [← hn1] at hsr;exact hsr)) (fun k l e f k1 k2 k3 k4 he hf=>by
    have hf':X2[l]? = some f:=by rw [← hS3.out l (by omega)];exact hf
    by_cases hkm:k=mid
    · have he':X2[k]? = some e:=by rw [← hS3.out k (by omega)];exact he
      exact hcutm' k l e f k1 k2 k3 k4 he' hf'
    · obtain ⟨k',hk',he'⟩:=hS3.back hn2 ⟨k1,by omega⟩ he
      exact hcutm' k' l e f hk'.1 (by omega) k3 k4 he' hf')
   rw [show ((mid+1:Nat):Int)=(mid:Int)+1 by omega] at hfin
   rw [show ((n2+1:Nat):Int)=(n2:Int)+1 by omega] at hc w2
   repeat (first|apply wA|apply wS|refine wr (by simp [e1,e2,w1,w2,w3,w4,t1,hc];with_reducible rfl) ?_|refine wq (by simp [e1,e2,w1,w2,w3,w4,t1,hc];with_reducible rfl) ?_|refine wt (by simpa [e1,e2,w1,w2,w3,w4,t1,hc]) ?_|refine wf (by simpa [e1,e2,w1,w2,w3,w4,t1,hc]) ?_|refine xt (by simpa [e1,e2,w1,w2,w3,w4,t1,hc]) ?_|refine xf (by simpa [e1,e2,w1,w2,w3,w4,t1,hc]) ?_|apply wB|apply Qab|refine wX ?_|refine wY ?_|refine wR ?_|refine wK ?_|refine wE ?_)
   exact hfin
 · obtain ⟨X3,hS3,hsr,e2⟩:=hrec n2 (mid+1) X2 (by omega) hX2 hn2 (by omega) (by omega) (.inr fun k e f k1 k2 he hf=>by
    rw [Nat.add_sub_cancel,hpv] at he
    cases he
    exact hhi' k f (by omega) (by omega) hf)
   rw [show ((mid+1:Nat):Int)+n2=(a:Int)+n by omega,show ((mid+1:Nat):Int)=(mid:Int)+1 by omega] at e2
   have hS3':Seg X2 X3 (mid+1) (a+n):=by rw [show mid+1+n2=a+n by omega] at hS3;exact hS3
   have hsr':Qcx X3 (mid+1) (a+n):=by rw [show mid+1+n2=a+n by omega] at hsr;exact hsr
   have hfin:=hR X3 mid (decide ((th:Int)≤(n2:Int)+1)) t hamid hmidb (hS.trans (hS3'.mono (by omega) (Nat.le_refl _))) (Qrq hn2 (mid:=mid+1) (fun k l e f k1 k2 k3=>by omega) (fun k l e f k1 k2 k3 k4=>hcutm' k l e f (by omega) k2 k3 k4) hS3' hsr') (fun k l e f k1 k2 k3 k4 he hf=>by
    have he':X2[k]? = some e:=by rw [← hS3'.out k (by omega)];exact he
    by_cases hlm:l=mid
    · have hf':X2[l]? = some f:=by rw [← hS3'.out l (by omega)];exact hf
      exact hcutm k l e f k1 k2 k3 k4 he' hf'
    · obtain ⟨l',hl',hf'⟩:=hS3'.back hn2 ⟨by omega,k4⟩ hf
      exact hcutm k l' e f k1 k2 (by omega) hl'.2 he' hf')
   rw [show ((n2+1:Nat):Int)=(n2:Int)+1 by omega] at hc w2
   repeat (first|apply wA|apply wS|refine wr (by simp [e1,e2,w1,w2,w3,w4,t1,hc];with_reducible rfl) ?_|refine wq (by simp [e1,e2,w1,w2,w3,w4,t1,hc];with_reducible rfl) ?_|refine wt (by simpa [e1,e2,w1,w2,w3,w4,t1,hc]) ?_|refine wf (by simpa [e1,e2,w1,w2,w3,w4,t1,hc]) ?_|refine xt (by simpa [e1,e2,w1,w2,w3,w4,t1,hc]) ?_|refine xf (by simpa [e1,e2,w1,w2,w3,w4,t1,hc]) ?_|apply wB|apply Qab|refine wX ?_|refine wY ?_|refine wR ?_|refine wK ?_|refine wE ?_)
   exact hfin
end Go.Idl
namespace Go.Idl
open Go
abbrev cB':IC:=(.seq (.seq Qxq (.cond (.t 56) (.seq Qw2 (.seq Qws Qww)) .skip)) (.seq (.seq Qyo (.cond (.t 75) (.seq Qu9 (.cond (.t 80) .ret .skip)) .skip)) (.seq (.seq Qyx (.cond (.t 97) (.seq Qxk (.seq Qyl (.exit 1))) .skip)) cD)))
abbrev cB:IC:=.seq Qy7 cB'
theorem Qxl {X:List (Int×Int)} {a b:Nat} (hn:X.Nodup) (h:∀ k,a < k→k < b→∀ h1 h2,Qan (X[k]'h1) (X[k - 1]'h2)=false):Qcx X a b:=by
 have key:∀ (d k:Nat) (e f:Int×Int),a≤k→k+d+1 < b→X[k]? = some e→X[k+d+1]? = some f→Qan e f=true:=by
  intro d
  induction d with
  | zero =>
    intro k e f hk hb he hf
    obtain ⟨h1,h2⟩:=List.getElem?_eq_some_iff.1 he
    obtain ⟨h3,h4⟩:=List.getElem?_eq_some_iff.1 hf
    have h5:=h (k+0+1) (by omega) hb h3 (by simpa using h1)
    simp only [Nat.add_zero,Nat.add_sub_cancel] at h5 h4
    rw [h4,h2] at h5
    have hne:e ≠ f:=by
     rintro rfl
     have:=(List.getElem_inj hn).1 (h2.trans h4.symm)
     omega
    rcases Qca hne with q | q
    · exact q
    · rw [h5] at q;cases q
  | succ d ih =>
    intro k e f hk hb he hf
    have h3:=(List.getElem?_eq_some_iff.1 hf).1
    have hg:k+d+1 < X.length:=by omega
    have q1:=ih k e X[k+d+1] hk (by omega) he (List.getElem?_eq_getElem hg)
    obtain ⟨h3,h4⟩:=List.getElem?_eq_some_iff.1 hf
    have h5:=h (k+(d+1)+1) (by omega) hb h3 (by omega)
    have hi:k+(d+1)+1 - 1=k+d+1:=by omega
    simp only [hi] at h5
    rw [h4] at h5
    have hne:X[k+d+1] ≠ f:=by
     intro he2
     have:=(List.getElem_inj hn).1 (he2.trans h4.symm)
     omega
    rcases Qca hne with q | q
    · exact Qc6 q1 q
    · rw [h5] at q;cases q
 intro k l e f hk hkl hl he hf
 obtain ⟨d,rfl⟩:∃ d,l=k+d+1:=⟨l - k - 1,by omega⟩
 exact key d k e f hk hl he hf
set_option maxHeartbeats 8000000 in
theorem Jks (X:List (Int×Int)) (hX:∀ x ∈ X,DE x) (hn:X.Nodup) (hl:X.length≤700000) (a n lim:Nat) (h13:13≤n) (h21:n≤21) (hab:a+n≤X.length) (M:List Qac) (hrec:Qrv n lim (M++[[]]))
 (h0:a=0 ∨ ∀ k e f,a≤k→k < a+n→X[a - 1]? = some e→X[k]? = some f→Qan e f=true)
 (bal part:Bool) (Q:Ex→St→Prop) (m:Nat) (hint:Int) (hm:a≤m∧m < a+n) (hh:hint=0 ∨ hint=1)
 (p1:∃ p,(a≤p∧p < a+n)∧∀ h1 h2,Qan (X[p]'h1) (X[m]'h2)=true) (p2:∃ p,(a≤p∧p < a+n)∧∀ h1 h2,Qan (X[m]'h1) (X[p]'h2)=true)
 (hS:∀ m:Nat,Qcx X a (a+n)→Q .ret { T:=[(0,O2 X),(1,I a),(2,I ((a:Int)+n)),(3,I lim),(4,fcE),(10,Bo bal),(11,Bo part),(12,I n),(13,I m),(80,Bo true)],loc:=[],M:=M })
 (hL:∀ (X3:List (Int×Int)) (mid:Nat) (bal part:Bool),a < mid→mid+1 < a+n→Seg X X3 a (a+n)→Qcx X3 a (mid+1)→Qi0 X3 a (mid+1) (a+n) →
   Q .normal { T:=[(0,O2 X3),(1,I (mid+1:Nat)),(2,I ((a:Int)+n)),(3,I lim),(4,fcE),(10,Bo bal),(11,Bo part)],loc:=[],M:=M })
 (hR:∀ (X3:List (Int×Int)) (mid:Nat) (bal part:Bool),a < mid→mid+1 < a+n→Seg X X3 a (a+n)→Qcx X3 mid (a+n)→Qi0 X3 a mid (a+n) →
   Q .normal { T:=[(0,O2 X3),(1,I a),(2,I mid),(3,I lim),(4,fcE),(10,Bo bal),(11,Bo part)],loc:=[],M:=M }) :
 wp tb cB' { T:=[(0,O2 X),(1,I a),(2,I ((a:Int)+n)),(3,I lim),(4,fcE),(10,Bo bal),(11,Bo part),(12,I n),(13,I m),(14,I hint)],loc:=[],M:=M } Q:=by
 obtain ⟨t,ht,hE2⟩:=Ql2 X hX (by omega) a n (by omega) (by omega) hab (M++[[]])
 have e2:=Qaa hE2
 have hml:m < X.length:=by omega
 have hD:=pdq_D X hX hn hl a n m lim h13 h21 hab hm M hrec h0 p1 p2 bal part Q hL hR
 have key:∀ (hq:a=0 ∨ ∃ a0,∃ h:a0 < X.length,a=a0+1∧Qnb X[a0] X[m] < 0),True:=fun _=>trivial
 have hq:a=0 ∨ ∃ a0,∃ h:a0 < X.length,a=a0+1∧Qnb X[a0] X[m] < 0:=by
  rcases h0 with h0 | h0
  · exact .inl h0
  · by_cases ha:a=0
    · exact .inl ha
    · refine .inr ⟨a - 1,by omega,by omega,?_⟩
      have:=h0 m X[a - 1] X[m] hm.1 hm.2 (List.getElem?_eq_getElem (by omega)) (List.getElem?_eq_getElem hml)
      rw [← Qb1] at this
      exact of_decide_eq_true this
 clear key
 have hto:X.take X.length=X:=List.take_of_length_le (Nat.le_refl _)
 rcases hq with ha | ⟨a0,ha0,ha,hcm⟩
 · have g1:¬ (0:Int) < (a:Int):=by omega
   have g1':¬ 0 < a:=by omega
   clear ha
   rcases hh with rfl | rfl
   · cases bal <;> cases part
     all_goals
      repeat (first|apply wA|apply wS|refine wr (by simp [hml,g1,g1'];with_reducible rfl) ?_|refine wq (by simp [hml,g1,g1'];with_reducible rfl) ?_|refine wt (by simpa [hml,g1,g1']) ?_|refine wf (by simpa [hml,g1,g1']) ?_|refine xt (by simpa [hml,g1,g1']) ?_|refine xf (by simpa [hml,g1,g1']) ?_|apply wB|apply Qab|refine wX ?_|refine wY ?_|refine wR ?_|refine wK ?_|refine wE ?_)
      exact hD
   · cases bal <;> cases part
     rotate_right 1
     · cases t with
       | true =>
         have hs:=hS m (Qxl hn (ht rfl))
         repeat (first|apply wA|apply wS|refine wr (by simp [e2,hml,g1,g1'];with_reducible rfl) ?_|refine wq (by simp [e2,hml,g1,g1'];with_reducible rfl) ?_|refine wt (by simpa [e2,hml,g1,g1']) ?_|refine wf (by simpa [e2,hml,g1,g1']) ?_|refine xt (by simpa [e2,hml,g1,g1']) ?_|refine xf (by simpa [e2,hml,g1,g1']) ?_|apply wB|apply Qab|refine wX ?_|refine wY ?_|refine wR ?_|refine wK ?_|refine wE ?_)
         exact hs
       | false =>
         repeat (first|apply wA|apply wS|refine wr (by simp [e2,hml,g1,g1'];with_reducible rfl) ?_|refine wq (by simp [e2,hml,g1,g1'];with_reducible rfl) ?_|refine wt (by simpa [e2,hml,g1,g1']) ?_|refine wf (by simpa [e2,hml,g1,g1']) ?_|refine xt (by simpa [e2,hml,g1,g1']) ?_|refine xf (by simpa [e2,hml,g1,g1']) ?_|apply wB|apply Qab|refine wX ?_|refine wY ?_|refine wR ?_|refine wK ?_|refine wE ?_)
         exact hD
     all_goals
      repeat (first|apply wA|apply wS|refine wr (by simp [hml,g1,g1'];with_reducible rfl) ?_|refine wq (by simp [hml,g1,g1'];with_reducible rfl) ?_|refine wt (by simpa [hml,g1,g1']) ?_|refine wf (by simpa [hml,g1,g1']) ?_|refine xt (by simpa [hml,g1,g1']) ?_|refine xf (by simpa [hml,g1,g1']) ?_|apply wB|apply Qab|refine wX ?_|refine wY ?_|refine wR ?_|refine wK ?_|refine wE ?_)
      exact hD
 · have e3:=fun M=>Qaa (Qer (hX _ (List.getElem_mem ha0)) (hX _ (List.getElem_mem hml)) M)
   have w1:IntKind.i64.wrap ((a:Int) - 1)=(a0:Int):=by rw [Qae (by omega) (by omega)];omega
   have g1:(0:Int) < (a:Int):=by omega
   have g1':0 < a:=by omega
   rcases hh with rfl | rfl
   · cases bal <;> cases part
     all_goals
      repeat (first|apply wA|apply wS|refine wr (by simp [e3,hml,ha0,w1,g1,g1',hcm];with_reducible rfl) ?_|refine wq (by simp [e3,hml,ha0,w1,g1,g1',hcm];with_reducible rfl) ?_|refine wt (by simpa [e3,hml,ha0,w1,g1,g1',hcm]) ?_|refine wf (by simpa [e3,hml,ha0,w1,g1,g1',hcm]) ?_|refine xt (by simpa [e3,hml,ha0,w1,g1,g1',hcm]) ?_|refine xf (by simpa [e3,hml,ha0,w1,g1,g1',hcm]) ?_|apply wB|apply Qab|refine wX ?_|refine wY ?_|refine wR ?_|refine wK ?_|refine wE ?_)
      exact hD
   · cases bal <;> cases part
     rotate_right 1
     · cases t with
       | true =>
         have hs:=hS m (Qxl hn (ht rfl))
         repeat (first|apply wA|apply wS|refine wr (by simp [e2,e3,hml,ha0,w1,g1,g1',hcm];with_reducible rfl) ?_|refine wq (by simp [e2,e3,hml,ha0,w1,g1,g1',hcm];with_reducible rfl) ?_|refine wt (by simpa [e2,e3,hml,ha0,w1,g1,g1',hcm]) ?_|refine wf (by simpa [e2,e3,hml,ha0,w1,g1,g1',hcm]) ?_|refine xt (by simpa [e2,e3,hml,ha0,w1,g1,g1',hcm]) ?_|refine xf (by simpa [e2,e3,hml,ha0,w1,g1,g1',hcm]) ?_|apply wB|apply Qab|refine wX ?_|refine wY ?_|refine wR ?_|refine wK ?_|refine wE ?_)
         exact hs
       | false =>
         repeat (first|apply wA|apply wS|refine wr (by simp [e2,e3,hml,ha0,w1,g1,g1',hcm];with_reducible rfl) ?_|refine wq (by simp [e2,e3,hml,ha0,w1,g1,g1',hcm];with_reducible rfl) ?_|refine wt (by simpa [e2,e3,hml,ha0,w1,g1,g1',hcm]) ?_|refine wf (by simpa [e2,e3,hml,ha0,w1,g1,g1',hcm]) ?_|refine xt (by simpa [e2,e3,hml,ha0,w1,g1,g1',hcm]) ?_|refine xf (by simpa [e2,e3,hml,ha0,w1,g1,g1',hcm]) ?_|apply wB|apply Qab|refine wX ?_|refine wY ?_|refine wR ?_|refine wK ?_|refine wE ?_)
         exact hD
     all_goals
      repeat (first|apply wA|apply wS|refine wr (by simp [e3,hml,ha0,w1,g1,g1',hcm];with_reducible rfl) ?_|refine wq (by simp [e3,hml,ha0,w1,g1,g1',hcm];with_reducible rfl) ?_|refine wt (by simpa [e3,hml,ha0,w1,g1,g1',hcm]) ?_|refine wf (by simpa [e3,hml,ha0,w1,g1,g1',hcm]) ?_|refine xt (by simpa [e3,hml,ha0,w1,g1,g1',hcm]) ?_|refine xf (by simpa [e3,hml,ha0,w1,g1,g1',hcm]) ?_|apply wB|apply Qab|refine wX ?_|refine wY ?_|refine wR ?_|refine wK ?_|refine wE ?_)
      exact hD
set_option maxHeartbeats 2000000 in
theorem Jng (X:List (Int×Int)) (hX:∀ x ∈ X,DE x) (hn:X.Nodup) (hl:X.length≤700000) (a n lim:Nat) (h13:13≤n) (h21:n≤21) (hab:a+n≤X.length) (M:List Qac) (hrec:Qrv n lim (M++[[]]))
 (h0:a=0 ∨ ∀ k e f,a≤k→k < a+n→X[a - 1]? = some e→X[k]? = some f→Qan e f=true)
 (bal part:Bool) (Q:Ex→St→Prop) (f:Bool)
 (hS:∀ m:Nat,Qcx X a (a+n)→Q .ret { T:=[(0,O2 X),(1,I a),(2,I ((a:Int)+n)),(3,I lim),(4,fcE),(10,Bo bal),(11,Bo part),(12,I n),(13,I m),(80,Bo true)],loc:=[],M:=M })
 (hL:∀ (X3:List (Int×Int)) (mid:Nat) (bal part:Bool),a < mid→mid+1 < a+n→Seg X X3 a (a+n)→Qcx X3 a (mid+1)→Qi0 X3 a (mid+1) (a+n) →
   Q .normal { T:=[(0,O2 X3),(1,I (mid+1:Nat)),(2,I ((a:Int)+n)),(3,I lim),(4,fcE),(10,Bo bal),(11,Bo part)],loc:=[],M:=M })
 (hR:∀ (X3:List (Int×Int)) (mid:Nat) (bal part:Bool),a < mid→mid+1 < a+n→Seg X X3 a (a+n)→Qcx X3 mid (a+n)→Qi0 X3 a mid (a+n) →
   Q .normal { T:=[(0,O2 X3),(1,I a),(2,I mid),(3,I lim),(4,fcE),(10,Bo bal),(11,Bo part)],loc:=[],M:=M }) :
 wp tb cB { T:=[(0,O2 X),(1,I a),(2,I ((a:Int)+n)),(3,I lim),(4,fcE),(10,Bo bal),(11,Bo part),(12,I n)]++(if f then [(39,Bo false)] else []),loc:=[],M:=M } Q:=by
 obtain ⟨m,hint,hm,hh,p1,p2,hE⟩:=Qky X hX hn (by omega) a n hab h13 (by omega) (M++[[]])
 have e1:=Qaa hE
 have hB:=Jks X hX hn hl a n lim h13 h21 hab M hrec h0 bal part Q m hint hm hh p1 p2 hS hL hR
 cases f
 all_goals
  simp only [if_true,if_false,Bool.false_eq_true,List.append_nil,List.cons_append,List.nil_append]
  refine wr (by simp [e1];with_reducible rfl) ?_
  exact hB
end Go.Idl
namespace Go.Idl
open Go
def pot (n:Nat):Nat:=if n≤12 then 0 else (n - 11) / 2
theorem Qr1 {X:List (Int×Int)} {a n lim:Nat} {M:List Qac}
 (h:wp tb (.loop Qhy) { T:=[(0,O2 X),(1,I a),(2,I ((a:Int)+n)),(3,I lim),(4,fcE),(10,Bo true),(11,Bo true)],loc:=[],M:=M }
   (fun ex st=>ex=.ret∧∃ X':List (Int×Int),Seg X X' a (a+n)∧Qcx X' a (a+n)∧Qld Qo1 [0] st=some ⟨.tup [],[O2 X'],M,[]⟩)) :
 ∃ X':List (Int×Int),Seg X X' a (a+n)∧Qcx X' a (a+n)∧Ev tb Qmz [0] [O2 X,I a,I ((a:Int)+n),I lim,fcE] M ⟨.tup [],[O2 X'],M,[]⟩:=by
 suffices hh:∃ r,(∃ X':List (Int×Int),Seg X X' a (a+n)∧Qcx X' a (a+n)∧r=⟨.tup [],[O2 X'],M,[]⟩)∧Ev tb Qmz [0] [O2 X,I a,I ((a:Int)+n),I lim,fcE] M r by
  obtain ⟨r,⟨X',q1,q2,rfl⟩,q3⟩:=hh
  exact ⟨X',q1,q2,q3⟩
 refine Qf7 zt285 rfl ?_
 repeat (first|apply wA|apply wS|refine wr (by simp;with_reducible rfl) ?_|refine wq (by simp;with_reducible rfl) ?_|refine wt (by simpa) ?_|refine wf (by simpa) ?_|refine xt (by simpa) ?_|refine xf (by simpa) ?_|apply wB|apply Qab|refine wX ?_|refine wY ?_|refine wR ?_|refine wK ?_|refine wE ?_)
 refine Qah h ?_
 rintro ex st ⟨rfl,X',q1,q2,q3⟩
 exact ⟨.inr rfl,_,⟨X',q1,q2,rfl⟩,q3⟩
abbrev Qmo (X:List (Int×Int)) (a n:Nat) (M:List Qac) (ex:Ex) (st:St):Prop :=
 ex=.ret∧∃ X':List (Int×Int),Seg X X' a (a+n)∧Qcx X' a (a+n)∧Qld Qo1 [0] st=some ⟨.tup [],[O2 X'],M,[]⟩
theorem Qvp (n:Nat) (h12:n≤12) (X:List (Int×Int)) (a lim:Nat) (bal part:Bool) (M:List Qac) (hX:∀ x ∈ X,DE x) (hnd:X.Nodup) (hl:X.length≤700000) (hab:a+n≤X.length) :
 wp tb (.loop Qhy) { T:=[(0,O2 X),(1,I a),(2,I ((a:Int)+n)),(3,I lim),(4,fcE),(10,Bo bal),(11,Bo part)],loc:=[],M:=M } (Qmo X a n M):=by
 obtain ⟨X',hS,hs,hE⟩:=Jbk X hX hnd hl a n hab (M++[[]])
 have e1:=Qaa hE
 have w00:(a:Int)+(n:Int) - a=n:=by omega
 have w0:IntKind.i64.wrap (n:Int)=(n:Int):=Qae (by omega) (by omega)
 have g1:(n:Int)≤12:=by omega
 refine wW ?_
 repeat (first|apply wA|apply wS|refine wr (by simp [w00,w0,g1,h12,e1];with_reducible rfl) ?_|refine wq (by simp [w00,w0,g1,h12,e1];with_reducible rfl) ?_|refine wt (by simpa [w00,w0,g1,h12,e1]) ?_|refine wf (by simpa [w00,w0,g1,h12,e1]) ?_|refine xt (by simpa [w00,w0,g1,h12,e1]) ?_|refine xf (by simpa [w00,w0,g1,h12,e1]) ?_|apply wB|apply Qab|refine wX ?_|refine wY ?_|refine wR ?_|refine wK ?_|refine wE ?_)
 refine ⟨rfl,X',hS,hs,?_⟩
 simp [Qo1]
set_option maxHeartbeats 4000000 in
theorem Jc1:∀ (N n:Nat),n≤N→n≤21→∀ (X:List (Int×Int)) (a lim:Nat) (bal part:Bool) (M:List Qac),(∀ x ∈ X,DE x)→X.Nodup→X.length≤700000→a+n≤X.length→pot n≤lim→lim≤1000 →
 (a=0 ∨ ∀ k e f,a≤k→k < a+n→X[a - 1]? = some e→X[k]? = some f→Qan e f=true) →
 wp tb (.loop Qhy) { T:=[(0,O2 X),(1,I a),(2,I ((a:Int)+n)),(3,I lim),(4,fcE),(10,Bo bal),(11,Bo part)],loc:=[],M:=M } (Qmo X a n M):=by
 intro N
 induction N with
 | zero =>
   intro n hn h21 X a lim bal part M hX hnd hl hab hpot hlim h0
   exact Qvp n (by omega) X a lim bal part M hX hnd hl hab
 | succ N ih =>
   intro n hn h21 X a lim bal part M hX hnd hl hab hpot hlim h0
   by_cases h12:n≤12
   · exact Qvp n h12 X a lim bal part M hX hnd hl hab
   have hp1:pot n=(n - 11) / 2:=by rw [pot,if_neg h12]
   have hlim1:1≤lim:=by omega
   have hpm:∀ n',n'+2≤n→pot n'≤lim - 1:=fun n' h=>by
    rw [pot];split <;> omega
   have hrec:∀ lim',lim - 1≤lim'→lim'≤1000→∀ M,Qrv n lim' M:=fun lim' h1 h2 M n' a' X hn' hX hnd hl hab h0=>by
    obtain ⟨X',q1,q2,q3⟩:=Qr1 (ih n' (by omega) (by omega) X a' lim' true true M hX hnd hl hab (by have:=hpm n' hn';omega) h2 h0)
    exact ⟨X',q1,q2,Qaa q3⟩
   have w00:(a:Int)+(n:Int) - a=n:=by omega
   have w0:IntKind.i64.wrap (n:Int)=(n:Int):=Qae (by omega) (by omega)
   have g1:¬ (n:Int)≤12:=by omega
   have g2:¬ (lim:Int)=0:=by omega
   have g2':¬ lim=0:=by omega
   have fin:∀ (X1:List (Int×Int)) (lim1:Nat),Seg X X1 a (a+n)→lim - 1≤lim1→lim1≤1000 →
    (∀ (X3:List (Int×Int)) (mid:Nat) (bal part:Bool),a < mid→mid+1 < a+n→Seg X1 X3 a (a+n)→Qcx X3 a (mid+1)→Qi0 X3 a (mid+1) (a+n) →
      wp tb (.loop Qhy) { T:=[(0,O2 X3),(1,I (mid+1:Nat)),(2,I ((a:Int)+n)),(3,I lim1),(4,fcE),(10,Bo bal),(11,Bo part)],loc:=[],M:=M } (Qmo X a n M)) ∧
    (∀ (X3:List (Int×Int)) (mid:Nat) (bal part:Bool),a < mid→mid+1 < a+n→Seg X1 X3 a (a+n)→Qcx X3 mid (a+n)→Qi0 X3 a mid (a+n) →
      wp tb (.loop Qhy) { T:=[(0,O2 X3),(1,I a),(2,I mid),(3,I lim1),(4,fcE),(10,Bo bal),(11,Bo part)],loc:=[],M:=M } (Qmo X a n M)):=by
    intro X1 lim1 hS1 hl1 hl2
    refine ⟨fun X3 mid bal part h1 h2 hS3 hs hc=>?_,fun X3 mid bal part h1 h2 hS3 hs hc=>?_⟩
    · have hS:=hS1.trans hS3
      have hle:=hS.len
      obtain ⟨n2,hn2⟩:∃ n2,a+n=mid+1+n2:=⟨a+n - (mid+1),by omega⟩
      have:=ih n2 (by omega) (by omega) X3 (mid+1) lim1 bal part M (fun x hx=>hX x (hS.perm.mem_iff.1 hx)) (hS.nodup hnd) (by omega) (by omega) (by have:=hpm n2 (by omega);omega) hl2 (.inr fun k e f k1 k2 he hf=>by
       rw [Nat.add_sub_cancel] at he
       exact hc mid k e f (by omega) (by omega) k1 (by omega) he hf)
      rw [show ((mid+1:Nat):Int)+(n2:Int)=(a:Int)+n by omega] at this
      refine Qah this ?_
      rintro ex st ⟨rfl,X',q1,q2,q3⟩
      rw [← hn2] at q1 q2
      exact ⟨rfl,X',hS.trans (q1.mono (by omega) (Nat.le_refl _)),Qrq (hS.nodup hnd) hs hc q1 q2,q3⟩
    · have hS:=hS1.trans hS3
      have hle:=hS.len
      obtain ⟨n1,hn1⟩:∃ n1,mid=a+n1:=⟨mid - a,by omega⟩
      have:=ih n1 (by omega) (by omega) X3 a lim1 bal part M (fun x hx=>hX x (hS.perm.mem_iff.1 hx)) (hS.nodup hnd) (by omega) (by omega) (by have:=hpm n1 (by omega);omega) hl2 (by
       rcases h0 with h0 | h0
       · exact .inl h0
       · by_cases ha:a=0
         · exact .inl ha
         · refine .inr fun k e f k1 k2 he hf=>?_
           rw [hS.out (a - 1) (by omega)] at he
           obtain ⟨k',hk',hf'⟩:=hS.back hnd ⟨k1,by omega⟩ hf
           exact h0 k' e f hk'.1 hk'.2 he hf')
      rw [show (a:Int)+(n1:Int)=(mid:Int) by omega] at this
      refine Qah this ?_
      rintro ex st ⟨rfl,X',q1,q2,q3⟩
      rw [← hn1] at q1 q2
      exact ⟨rfl,X',hS.trans (q1.mono (Nat.le_refl _) (by omega)),Qoc (hS.nodup hnd) hs hc q1 q2,q3⟩
   cases bal with
   | true =>
     obtain ⟨fL,fR⟩:=fin X lim (Seg.refl X a (a+n)) (by omega) hlim
     refine wW ?_
     iterate 10 (first|apply wA|apply wS|refine wr (by simp [w00,w0,g1,h12,g2,g2'];with_reducible rfl) ?_|refine wq (by simp [w00,w0,g1,h12,g2,g2'];with_reducible rfl) ?_|refine wt (by simpa [w00,w0,g1,h12,g2,g2']) ?_|refine wf (by simpa [w00,w0,g1,h12,g2,g2']) ?_|refine xt (by simpa [w00,w0,g1,h12,g2,g2']) ?_|refine xf (by simpa [w00,w0,g1,h12,g2,g2']) ?_|apply wB|apply Qab|refine wX ?_|refine wY ?_|refine wR ?_|refine wK ?_|refine wE ?_)
     refine wK ?_
     refine Jng X hX hnd hl a n lim (by omega) h21 hab M (hrec lim (by omega) hlim _) h0 true part _ true ?_ ?_ ?_
     · intro m hs
       refine ⟨rfl,X,Seg.refl X a (a+n),hs,?_⟩
       simp [Qo1]
     · intro X3 mid bal part h1 h2 h3 h4 h5
       exact fL X3 mid bal part h1 h2 h3 h4 h5
     · intro X3 mid bal part h1 h2 h3 h4 h5
       exact fR X3 mid bal part h1 h2 h3 h4 h5
   | false =>
     obtain ⟨X1,hS1,hE⟩:=Qi1 X (by omega) a n (by omega) h21 hab (M++[[]])
     have e1:=Qaa hE
     obtain ⟨lim1,hlim2⟩:∃ lim1,lim=lim1+1:=⟨lim - 1,by omega⟩
     have hle:=hS1.len
     have w1:IntKind.i64.wrap ((lim:Int) - 1)=(lim1:Int):=by rw [Qae (by omega) (by omega)];omega
     obtain ⟨fL,fR⟩:=fin X1 lim1 hS1 (by omega) (by omega)
     refine wW ?_
     iterate 12 (first|apply wA|apply wS|refine wr (by simp [w00,w0,g1,h12,g2,g2',e1,w1];with_reducible rfl) ?_|refine wq (by simp [w00,w0,g1,h12,g2,g2',e1,w1];with_reducible rfl) ?_|refine wt (by simpa [w00,w0,g1,h12,g2,g2',e1,w1]) ?_|refine wf (by simpa [w00,w0,g1,h12,g2,g2',e1,w1]) ?_|refine xt (by simpa [w00,w0,g1,h12,g2,g2',e1,w1]) ?_|refine xf (by simpa [w00,w0,g1,h12,g2,g2',e1,w1]) ?_|apply wB|apply Qab|refine wX ?_|refine wY ?_|refine wR ?_|refine wK ?_|refine wE ?_)
     refine Jng X1 (fun x hx=>hX x (hS1.perm.mem_iff.1 hx)) (hS1.nodup hnd) (by omega) a n lim1 (by omega) h21 (by omega) M (hrec lim1 (by omega) (by omega) _) ?_ false part _ false ?_ ?_ ?_
     · rcases h0 with h0 | h0
       · exact .inl h0
       · by_cases ha:a=0
         · exact .inl ha
         · refine .inr fun k e f k1 k2 he hf=>?_
           rw [hS1.out (a - 1) (by omega)] at he
           obtain ⟨k',hk',hf'⟩:=hS1.back hnd ⟨k1,k2⟩ hf
           exact h0 k' e f hk'.1 hk'.2 he hf'
     · intro m hs
       refine ⟨rfl,X1,hS1,hs,?_⟩
       simp [Qo1]
     · intro X3 mid bal part h1 h2 h3 h4 h5
       exact fL X3 mid bal part h1 h2 h3 h4 h5
     · intro X3 mid bal part h1 h2 h3 h4 h5
       exact fR X3 mid bal part h1 h2 h3 h4 h5
theorem Qks (X:List (Int×Int)) (hX:∀ x ∈ X,DE x) (hn:X.Nodup) (h21:X.length≤21) (M:List Qac) :
 ∃ X':List (Int×Int),X'.Perm X∧Qcx X' 0 X.length∧Ev tb Qug [0] [O2 X,fcE] M ⟨.tup [],[O2 X'],M,[]⟩:=by
 have hb:Qul X.length≤1000:=by unfold Qul;(repeat' split) <;> omega
 have hp:pot X.length≤Qul X.length:=by
  unfold pot Qul
  (repeat' split) <;> omega
 obtain ⟨X',hS,hs,hE⟩:=Qr1 (Jc1 X.length X.length (Nat.le_refl _) h21 X 0 (Qul X.length) true true (M++[[]]) hX hn (by omega) (by omega) hp hb (.inl rfl))
 have e1:=Qaa hE
 have e2:=Qaa (Qx6 X.length h21)
 have w1:=@Jcq X.length (by omega)
 rw [show ((0:Nat):Int)=0 from rfl,Int.zero_add] at e1
 rw [Nat.zero_add] at hs
 refine ⟨X',hS.perm,hs,?_⟩
 refine cW Jzg rfl ?_
 repeat (first|apply wA|apply wS|refine wr (by simp [e1,e2,w1];with_reducible rfl) ?_|refine wq (by simp [e1,e2,w1];with_reducible rfl) ?_|refine wt (by simpa [e1,e2,w1]) ?_|refine wf (by simpa [e1,e2,w1]) ?_|refine xt (by simpa [e1,e2,w1]) ?_|refine xf (by simpa [e1,e2,w1]) ?_|apply wB|apply Qab|refine wX ?_|refine wY ?_|refine wR ?_|refine wK ?_|refine wE ?_)
 simp [Jcw]
def Jdq (X:List (Int×Int)):List (Int×Int):=Qne Qan [] X
theorem Qpy {X:List (Int×Int)} (hn:X.Nodup):PW (Jdq X):=by
 obtain ⟨h1,h2⟩:=Qp4 (lt:=Qan) Qru (fun a b h=>Qgb h) X [] .nil
 have hnd:(Jdq X).Nodup:=h2.nodup_iff.2 (by simpa using hn)
 refine (h1.and hnd).imp fun {a b} h=>?_
 rcases Qca h.2 with q | q
 · exact q
 · rw [h.1] at q;cases q
theorem Qe3 (X:List (Int×Int)):(Jdq X).Perm X:=by
 have:=Qnp Qan X []
 rwa [List.nil_append] at this
theorem Qqe (X:List (Int×Int)) (hX:∀ x ∈ X,DE x) (hn:X.Nodup) (h21:X.length≤21) (M:List Qac) :
 Ev tb Qug [0] [O2 X,fcE] M ⟨.tup [],[O2 (Jdq X)],M,[]⟩:=by
 obtain ⟨X',hp,hs,hE⟩:=Qks X hX hn h21 M
 have hl:=hp.length_eq
 have hpw:PW X':=List.pairwise_iff_getElem.2 fun i j hi hj hij=>hs i j _ _ (by omega) hij (by omega) (List.getElem?_eq_getElem hi) (List.getElem?_eq_getElem hj)
 have:X'=Jdq X:=Qw9 hpw (Qpy hn) fun e=>by rw [hp.mem_iff,(Qe3 X).mem_iff]
 rw [← this];exact hE
end Go.Idl
namespace Go.Idl
open Go
def Jkv (o:List Int) (i:Nat):List Int:=o.set i (o.getD i 0 - 1)
def subs:List (Int×Int)→List Int→List (Int×Int)→List (List (Int×Int))
 | [],left,chosen=>if left.all (fun x=>decide (x=0)) then [chosen] else []
 | e::r,left,chosen =>
   (if 0 < left.getD e.1.toNat 0∧0 < left.getD e.2.toNat 0 then subs r (Jkv (Jkv left e.1.toNat) e.2.toNat) (chosen++[e]) else [])++subs r left chosen
theorem Qj6 (e0:Nat) (es:List (Int×Int)) (c:Bool) (he0:e0=2 ∨ es=[]) (hl:es.length≤1000000):Ev tb Qqs [] [.lst e0 (eds es) c] [] ⟨O2 es,[],[],[]⟩:=by
 rcases he0 with rfl | rfl
 · refine cW Jus rfl ?_
   refine Qb4 (by simp;rfl) (by simp;rfl) ?_
   refine Qqn (b:=es.isEmpty) (by simp [Qwd];rfl) (by simp) ?_ ?_ ?_ (ex:=.ret) (st':={ T:=[(2,.own 2 (eds es))],loc:=[],M:=[] })
   · refine Qiv (t:=false) (by simp) (by simp) fun _=>wS ?_
     refine Qb4 (by simp [show es.length≤274877906944 by omega];rfl) (by simp;rfl) ?_
     refine wR ?_
     simp
   · intro he
     have:es=[]:=by simpa using he
     subst this
     refine Qiv (t:=true) (by simp) (fun _=>wA ?_) (by simp)
     refine Qb4 (by simp;rfl) (by simp;rfl) ?_
     refine wX ?_
     simp
   · simp [Qy2]
 · refine cW Jus rfl ?_
   refine Qb4 (by simp;rfl) (by simp;rfl) ?_
   refine Qqn (b:=([]:List (Int×Int)).isEmpty) (by simp [Qwd];rfl) (by simp) ?_ ?_ ?_ (ex:=.ret) (st':={ T:=[(2,.own 2 (eds ([]:List (Int×Int))))],loc:=[],M:=[] })
   · refine Qiv (t:=false) (by simp) (by simp) fun _=>wS ?_
     refine Qb4 (by simp;rfl) (by simp;rfl) ?_
     refine wR ?_
     simp
   · intro he
     refine Qiv (t:=true) (by simp) (fun _=>wA ?_) (by simp)
     refine Qb4 (by simp;rfl) (by simp;rfl) ?_
     refine wX ?_
     simp
   · simp [Qy2]
theorem Qj2 (e0:Nat) (es:List (Int×Int)) (c:Bool) (he0:e0=2 ∨ es=[]) (hl:es.length≤1000000):Ev tb Qtf [] [.lst e0 (eds es) c] [] ⟨O2 es,[],[],[]⟩:=by
 have e1:=Qaa (Qj6 e0 es c he0 hl)
 have e2:=Qaa (Jbz es)
 refine cW zt204 rfl ?_
 repeat (first|apply wA|apply wS|refine wr (by simp [e1,e2];with_reducible rfl) ?_|refine wq (by simp [e1,e2];with_reducible rfl) ?_|refine wt (by simpa [e1,e2]) ?_|refine wf (by simpa [e1,e2]) ?_|refine xt (by simpa [e1,e2]) ?_|refine xf (by simpa [e1,e2]) ?_|apply wB|apply Qab|refine wX ?_|refine wY ?_|refine wR ?_|refine wK ?_|refine wE ?_)
 simp [Jb3]
end Go.Idl
namespace Go.Idl
open Go
theorem Jfm (n:Int) (e0:Nat) (es:List (Int×Int)) (c:Bool) (he0:e0=2 ∨ es=[]) (hX:∀ x ∈ es,DE x) (hn:es.Nodup) (h21:es.length≤21) :
 Ev tb Qx5 [] [I n,.lst e0 (eds es) c] [] ⟨OG n (Jdq es),[],[],[]⟩:=by
 have e1:=Qaa (Qj2 e0 es c he0 (by omega))
 have e2:=Qaa (Qqe es hX hn h21 [[[I 0,Z]]])
 refine cW zt214 rfl ?_
 repeat (first|apply wA|apply wS|refine wr (by simp [e1,e2];with_reducible rfl) ?_|refine wq (by simp [e1,e2];with_reducible rfl) ?_|refine wt (by simpa [e1,e2]) ?_|refine wf (by simpa [e1,e2]) ?_|refine xt (by simpa [e1,e2]) ?_|refine xf (by simpa [e1,e2]) ?_|apply wB|apply Qab|refine wX ?_|refine wY ?_|refine wR ?_|refine wK ?_|refine wE ?_)
 simp [Jaf]
end Go.Idl
namespace Go.Idl
open Go
theorem Qc1 (n:Nat):Qd1 n (-1)=(List.range n).map fun v:Nat=>(v:Int):=by
 rw [Qd1]
 refine List.filter_eq_self.2 fun x hx=>?_
 obtain ⟨v,_,rfl⟩:=List.mem_map.1 hx
 simp
end Go.Idl
namespace Go.Idl
open Go
def Qdh (o:List Int) (e:Int×Int):List Int:=(o.set e.1.toNat (min (o.getD e.1.toNat 0) (o.getD e.2.toNat 0))).set e.2.toNat (min (o.getD e.1.toNat 0) (o.getD e.2.toNat 0))
def Qhl (es:List (Int×Int)):Nat→List Int→List Int
 | 0,o=>o
 | m+1,o=>Qhl es m (es.foldl Qdh o)
theorem Qet (o:List Int) (e:Int×Int):(Qdh o e).length=o.length:=by simp [Qdh]
theorem Qn4 (es:List (Int×Int)):∀ o:List Int,(es.foldl Qdh o).length=o.length:=by
 induction es with
 | nil=>intro o;rfl
 | cons e es ih=>intro o;rw [List.foldl_cons,ih,Qet]
theorem Qjc (es:List (Int×Int)):∀ (m:Nat) (o:List Int),(Qhl es m o).length=o.length
 | 0,_=>rfl
 | m+1,o=>by rw [Qhl,Qjc es m,Qn4]
theorem Jzr (n:Nat) (e0:Nat) (es:List (Int×Int)) (c:Bool) (he0:e0=2 ∨ es=[]) (hes:∀ e ∈ es,0≤e.1∧e.1 < n∧0≤e.2∧e.2 < n) (hel:es.length≤1000) (k:Nat):∀ (m j:Nat) (out:List Int) (B:Qac),j+m=es.length→out.length=n →
 wp tb (.loop Qu8) { T:=[(1,.bptr 0 0 0),(3,O out),(11,I n),(12,I k),(15,.lst e0 (eds es) c),(16,I es.length),(17,I j)],loc:=[I n,.lst e0 (eds es) c]::B,M:=[] }
  (fun ex st=>ex=.exit 2∧∃ B',st={ T:=[(1,.bptr 0 0 0),(3,O ((es.drop j).foldl Qdh out)),(11,I n),(12,I k),(15,.lst e0 (eds es) c),(16,I es.length),(17,I es.length),(18,Bo false)],loc:=[I n,.lst e0 (eds es) c]::B',M:=[] }):=by
 intro m
 induction m with
 | zero =>
   intro j out B hj hl
   have h3:j=es.length:=hj
   subst h3
   refine wW ?_
   repeat (first|apply wA|apply wS|refine wr (by simp;with_reducible rfl) ?_|refine wq (by simp;with_reducible rfl) ?_|refine wt (by simpa) ?_|refine wf (by simpa) ?_|refine xt (by simpa) ?_|refine xf (by simpa) ?_|apply wB|apply Qab|refine wX ?_|refine wY ?_|refine wR ?_|refine wK ?_|refine wE ?_)
   exact ⟨rfl,_,by simp;rfl⟩
 | succ m ih =>
   intro j out B hj hl
   have hj2:j < es.length:=by omega
   have he2:e0=2:=by
    rcases he0 with h | h
    · exact h
    · rw [h] at hj2;cases hj2
   subst he2
   have hd:es.drop j=es[j]::es.drop (j+1):=List.drop_eq_getElem_cons hj2
   have hb:=hes _ (List.getElem_mem hj2)
   obtain ⟨⟨x,y⟩,hx⟩:∃ e,e=es[j]:=⟨_,rfl⟩
   rw [← hx] at hb
   simp only at hb
   obtain ⟨a,rfl⟩:=Int.eq_ofNat_of_zero_le hb.1
   obtain ⟨b,rfl⟩:=Int.eq_ofNat_of_zero_le hb.2.2.1
   have hx2:=hx.symm
   have han:a < n:=by omega
   have hbn:b < n:=by omega
   have ha:a < out.length:=by omega
   have hbl:b < out.length:=by omega
   have w1:IntKind.i64.wrap ((j:Int)+1)=((j+1:Nat):Int):=Qbg (by omega)
   have hmn:(if out[b] < out[a] then out[b] else out[a])=min out[a] out[b]:=by split <;> omega
   have hn:=ih (j+1) (Qdh out ((a:Int),(b:Int))) (B++[[I a,I b]]) (by omega) (by rw [Qet,hl])
   have ga:out.getD a 0=out[a]:=by rw [List.getD_eq_getElem?_getD,List.getElem?_eq_getElem ha];rfl
   have gb:out.getD b 0=out[b]:=by rw [List.getD_eq_getElem?_getD,List.getElem?_eq_getElem hbl];rfl
   have hr:Qdh out ((a:Int),(b:Int))=(out.set a (min out[a] out[b])).set b (min out[a] out[b]):=by
    simp only [Qdh,Int.toNat_natCast,ga,gb]
   rw [hd,← hx,List.foldl_cons]
   rw [hr] at hn ⊢
   refine wW ?_
   repeat (first|apply wA|apply wS|refine wr (by simp [hj2,hx2,ha,hbl,hl,hmn,han,hbn];with_reducible rfl) ?_|refine wq (by simp [hj2,hx2,ha,hbl,hl,hmn,han,hbn];with_reducible rfl) ?_|refine wt (by simpa [hj2,hx2,ha,hbl,hl,hmn,han,hbn]) ?_|refine wf (by simpa [hj2,hx2,ha,hbl,hl,hmn,han,hbn]) ?_|refine xt (by simpa [hj2,hx2,ha,hbl,hl,hmn,han,hbn]) ?_|refine xf (by simpa [hj2,hx2,ha,hbl,hl,hmn,han,hbn]) ?_|apply wB|apply Qab|refine wX ?_|refine wY ?_|refine wR ?_|refine wK ?_|refine wE ?_)
   refine Qe7 (by simp [ha,hbl,hl,han,hbn];with_reducible rfl) (by simp;with_reducible rfl) ?_ ?_
   · intro p hp
     simp only [List.mem_cons,List.not_mem_nil,or_false] at hp
     subst hp
     exact ⟨_,by simp [ha,hbl,hl,han,hbn];with_reducible rfl,by simp⟩
   repeat (first|apply wA|apply wS|refine wr (by simp [w1];with_reducible rfl) ?_|refine wq (by simp [w1];with_reducible rfl) ?_|refine wt (by simpa [w1]) ?_|refine wf (by simpa [w1]) ?_|refine xt (by simpa [w1]) ?_|refine xf (by simpa [w1]) ?_|apply wB|apply Qab|refine wX ?_|refine wY ?_|refine wR ?_|refine wK ?_|refine wE ?_)
   exact hn
theorem Jwr (n:Nat) (e0:Nat) (es:List (Int×Int)) (c:Bool) (he0:e0=2 ∨ es=[]) (hes:∀ e ∈ es,0≤e.1∧e.1 < n∧0≤e.2∧e.2 < n) (hel:es.length≤1000) (hn7:n≤7):∀ (m k:Nat) (out:List Int) (B:Qac),k+m=n→out.length=n →
 wp tb (.loop Qve) { T:=[(1,.bptr 0 0 0),(3,O out),(11,I n),(12,I k)],loc:=[I n,.lst e0 (eds es) c]::B,M:=[] }
  (fun ex st=>ex=.exit 0∧∃ B',st={ T:=[(1,.bptr 0 0 0),(3,O (Qhl es m out)),(11,I n),(12,I n),(13,Bo false)],loc:=[I n,.lst e0 (eds es) c]::B',M:=[] }):=by
 intro m
 induction m with
 | zero =>
   intro k out B hk hl
   have h3:k=n:=hk
   subst h3
   refine wW ?_
   repeat (first|apply wA|apply wS|refine wr (by simp;with_reducible rfl) ?_|refine wq (by simp;with_reducible rfl) ?_|refine wt (by simpa) ?_|refine wf (by simpa) ?_|refine xt (by simpa) ?_|refine xf (by simpa) ?_|apply wB|apply Qab|refine wX ?_|refine wY ?_|refine wR ?_|refine wK ?_|refine wE ?_)
   exact ⟨rfl,_,rfl⟩
 | succ m ih =>
   intro k out B hk hl
   have hk2:k < n:=by omega
   have w1:IntKind.i64.wrap ((k:Int)+1)=((k+1:Nat):Int):=Qbg (by omega)
   refine wW ?_
   repeat (first|apply wA|apply wS|refine wr (by simp [hk2];with_reducible rfl) ?_|refine wq (by simp [hk2];with_reducible rfl) ?_|refine wt (by simpa [hk2]) ?_|refine wf (by simpa [hk2]) ?_|refine xt (by simpa [hk2]) ?_|refine xf (by simpa [hk2]) ?_|apply wB|apply Qab|refine wX ?_|refine wY ?_|refine wR ?_|refine wK ?_|refine wE ?_)
   refine Qah (Jzr n e0 es c he0 hes hel k es.length 0 out B (by omega) hl) ?_
   rintro ex st ⟨rfl,B',rfl⟩
   simp only [if_true,List.drop_zero]
   repeat (first|apply wA|apply wS|refine wr (by simp [w1];with_reducible rfl) ?_|refine wq (by simp [w1];with_reducible rfl) ?_|refine wt (by simpa [w1]) ?_|refine wf (by simpa [w1]) ?_|refine xt (by simpa [w1]) ?_|refine xf (by simpa [w1]) ?_|apply wB|apply Qab|refine wX ?_|refine wY ?_|refine wR ?_|refine wK ?_|refine wE ?_)
   exact ih (k+1) (es.foldl Qdh out) B' (by omega) (by rw [Qn4,hl])
theorem Qmh (n:Nat) (hn1:1≤n) (hn7:n≤7) (e0:Nat) (es:List (Int×Int)) (c:Bool) (he0:e0=2 ∨ es=[]) (hes:∀ e ∈ es,0≤e.1∧e.1 < n∧0≤e.2∧e.2 < n) (hel:es.length≤1000) :
 Ev tb Qkx [] [.agg [I n,.lst e0 (eds es) c]] [] ⟨O (Qhl es n (Qd1 n (-1))),[],[],[]⟩:=by
 have e1:=Qaa (Qfd n (-1) (by omega))
 have hil:(Qd1 n (-1)).length=n:=by rw [Qc1];simp
 have loop:=Jwr n e0 es c he0 hes hel hn7 n 0 (Qd1 n (-1)) [] (by omega) hil
 rw [show ((0:Nat):Int)=0 from rfl] at loop
 generalize Qd1 n (-1)=L at *
 cases L with
 | nil=>simp at hil;omega
 | cons x L =>
   simp only [nlI] at e1
   refine cW Jaj rfl ?_
   repeat (first|apply wA|apply wS|refine wr (by simp [e1];with_reducible rfl) ?_|refine wq (by simp [e1];with_reducible rfl) ?_|refine wt (by simpa [e1]) ?_|refine wf (by simpa [e1]) ?_|refine xt (by simpa [e1]) ?_|refine xf (by simpa [e1]) ?_|apply wB|apply Qab|refine wX ?_|refine wY ?_|refine wR ?_|refine wK ?_|refine wE ?_)
   refine Qah loop ?_
   rintro ex st ⟨rfl,B',rfl⟩
   simp only [if_true]
   repeat (first|apply wA|apply wS|refine wr (by simp;with_reducible rfl) ?_|refine wq (by simp;with_reducible rfl) ?_|refine wt (by simpa) ?_|refine wf (by simpa) ?_|refine xt (by simpa) ?_|refine xf (by simpa) ?_|apply wB|apply Qab|refine wX ?_|refine wY ?_|refine wR ?_|refine wK ?_|refine wE ?_)
   simp [Qqv]
end Go.Idl
namespace Go.Idl
open Go
def Qkm (e:Int×Int):List (Int×Int)→List (Int×Int)
 | []=>[e]
 | x::r=>if Qan x e then x::Qkm e r else e::x::r
theorem Jie (e:Int×Int) (es:List (Int×Int)) (k:Nat) (hk:k≤es.length) (h:∀ x ∈ es.take k,Qan x e=true) (hs:∀ h:k < es.length,Qan es[k] e=false) :
 Qkm e es=es.take k++[e]++es.drop k:=by
 induction es generalizing k with
 | nil=>simp at hk;subst hk;rfl
 | cons x r ih =>
   cases k with
   | zero =>
     have:=hs (by simp)
     simp only [List.getElem_cons_zero] at this
     simp [Qkm,this]
   | succ k =>
     have h1:=h x (by simp)
     rw [Qkm,if_pos h1,ih k (by simpa using hk) (fun y hy=>h y (by simp [hy])) (fun hh=>hs (by simpa using hh))]
     simp
theorem Qse (e:Int×Int) (es:List (Int×Int)):(Qkm e es).length=es.length+1:=by
 induction es with
 | nil=>rfl
 | cons x r ih=>rw [Qkm];split <;> simp [ih]
theorem Qgg (e x:Int×Int) (es:List (Int×Int)):x ∈ Qkm e es ↔ x=e ∨ x ∈ es:=by
 induction es with
 | nil=>simp [Qkm]
 | cons y r ih =>
   rw [Qkm];split
   · rw [List.mem_cons,ih,List.mem_cons]
     constructor
     · rintro (h | h | h) <;> simp [h]
     · rintro (h | h | h) <;> simp [h]
   · simp
theorem Qia (n:Int) (es:List (Int×Int)) (c:Bool) (a b:Int) (hl:es.length≤1000000) :
 Ev tb Qqg [] [Gr n es c,I a,I b] [] ⟨OG n (Qkm (min a b,max a b) es),[],[],[]⟩:=by
 obtain ⟨e,he⟩:∃ e:Int×Int,e=(min a b,max a b):=⟨_,rfl⟩
 have he1:(if b < a then b else a)=e.1:=by rw [he];simp only;split <;> omega
 have he2:(if a < b then b else a)=e.2:=by rw [he];simp only;split <;> omega
 rw [← he]
 have loop:∀ (m k:Nat),k+m=es.length→(∀ x ∈ es.take k,Qan x e=true)→wp tb (.loop Jdj) { T:=[(3,.bptr 0 0 0),(6,.bptr 0 1 0),(7,.bptr 0 2 0),(8,I k)],loc:=[[I n,L2 es c],[I 0,Z],[I e.1,I e.2]],M:=[] }
  (fun ex st=>ex=.exit 0∧∃ k:Nat,(k≤es.length∧(∀ x ∈ es.take k,Qan x e=true)∧(∀ h:k < es.length,Qan es[k] e=false)) ∧
    st={ T:=[(3,.bptr 0 0 0),(6,.bptr 0 1 0),(7,.bptr 0 2 0),(8,I k),(30,Bo false)],loc:=[[I n,L2 es c],[I 0,Z],[I e.1,I e.2]],M:=[] }):=by
  intro m
  induction m with
  | zero =>
    intro k hk hb
    have h3:k=es.length:=hk
    subst h3
    refine wW ?_
    repeat (first|apply wA|apply wS|refine wr (by simp;with_reducible rfl) ?_|refine wq (by simp;with_reducible rfl) ?_|refine wt (by simpa) ?_|refine wf (by simpa) ?_|refine xt (by simpa) ?_|refine xf (by simpa) ?_|apply wB|apply Qab|refine wX ?_|refine wY ?_|refine wR ?_|refine wK ?_|refine wE ?_)
    exact ⟨rfl,es.length,⟨Nat.le_refl _,hb,fun h=>absurd h (by omega)⟩,rfl⟩
  | succ m ih =>
    intro k hk hb
    have hi2:k < es.length:=by omega
    have w2:IntKind.i64.wrap ((k:Int)+1)=((k+1:Nat):Int):=Qbg (by omega)
    have e1:=Qaa (Qin es[k] e)
    cases hq:Qan es[k] e with
    | true =>
      refine wW ?_
      repeat (first|apply wA|apply wS|refine wr (by simp [hi2,e1,hq,w2];with_reducible rfl) ?_|refine wq (by simp [hi2,e1,hq,w2];with_reducible rfl) ?_|refine wt (by simpa [hi2,e1,hq,w2]) ?_|refine wf (by simpa [hi2,e1,hq,w2]) ?_|refine xt (by simpa [hi2,e1,hq,w2]) ?_|refine xf (by simpa [hi2,e1,hq,w2]) ?_|apply wB|apply Qab|refine wX ?_|refine wY ?_|refine wR ?_|refine wK ?_|refine wE ?_)
      refine ih (k+1) (by omega) fun x hx=>?_
      rw [List.take_succ_eq_append_getElem hi2] at hx
      rcases List.mem_append.1 hx with hx | hx
      · exact hb x hx
      · simp at hx;subst hx;exact hq
    | false =>
      refine wW ?_
      repeat (first|apply wA|apply wS|refine wr (by simp [hi2,e1,hq];with_reducible rfl) ?_|refine wq (by simp [hi2,e1,hq];with_reducible rfl) ?_|refine wt (by simpa [hi2,e1,hq]) ?_|refine wf (by simpa [hi2,e1,hq]) ?_|refine xt (by simpa [hi2,e1,hq]) ?_|refine xf (by simpa [hi2,e1,hq]) ?_|apply wB|apply Qab|refine wX ?_|refine wY ?_|refine wR ?_|refine wK ?_|refine wE ?_)
      exact ⟨rfl,k,⟨by omega,hb,fun _=>hq⟩,rfl⟩
 refine cW zt335 rfl ?_
 repeat (first|apply wA|apply wS|refine wr (by simp [he1,he2];with_reducible rfl) ?_|refine wq (by simp [he1,he2];with_reducible rfl) ?_|refine wt (by simpa [he1,he2]) ?_|refine wf (by simpa [he1,he2]) ?_|refine xt (by simpa [he1,he2]) ?_|refine xf (by simpa [he1,he2]) ?_|apply wB|apply Qab|refine wX ?_|refine wY ?_|refine wR ?_|refine wK ?_|refine wE ?_)
 refine Qah (loop es.length 0 (by simp) (by simp)) ?_
 rintro ex st ⟨rfl,k,⟨hk,hb,hs⟩,rfl⟩
 rw [Jie e es k hk hb hs]
 try simp only [if_true]
 have hT:es.take es.length=es:=List.take_of_length_le (Nat.le_refl _)
 have hT2:(es.drop k).take (es.length - k)=es.drop k:=List.take_of_length_le (by simp)
 have hT3:(es.take k).take k=es.take k:=by rw [List.take_take,Nat.min_self]
 have hl1:k≤274877906943:=by omega
 have hl2:k≤274877906944:=by omega
 have hl3:k+1≤274877906944:=by omega
 have hl4:k+1+(es.length - k)≤274877906944:=by omega
 have hT4:(es.take k++[(e.1,e.2)]).take (k+1)=es.take k++[(e.1,e.2)]:=List.take_of_length_le (by simp;omega)
 have hmin:min k es.length=k:=by omega
 repeat (first|apply wA|apply wS|refine wr (by simp [hk,hT,hT2,hT3,hl1,hl2,hl3,hl4,hT4,hmin];with_reducible rfl) ?_|refine wq (by simp [hk,hT,hT2,hT3,hl1,hl2,hl3,hl4,hT4,hmin];with_reducible rfl) ?_|refine wt (by simpa [hk,hT,hT2,hT3,hl1,hl2,hl3,hl4,hT4,hmin]) ?_|refine wf (by simpa [hk,hT,hT2,hT3,hl1,hl2,hl3,hl4,hT4,hmin]) ?_|refine xt (by simpa [hk,hT,hT2,hT3,hl1,hl2,hl3,hl4,hT4,hmin]) ?_|refine xf (by simpa [hk,hT,hT2,hT3,hl1,hl2,hl3,hl4,hT4,hmin]) ?_|apply wB|apply Qab|refine wX ?_|refine wY ?_|refine wR ?_|refine wK ?_|refine wE ?_)
 refine Qe7 (by simp [hk,hT,hT2,hT3,hl1,hl2,hl3,hl4,hT4,hmin];with_reducible rfl) (by simp;with_reducible rfl) ?_ ?_
 · intro p hp
   simp only [List.mem_cons,List.not_mem_nil,or_false] at hp
   rcases hp with rfl | rfl | rfl | rfl | rfl | rfl | rfl | rfl | rfl | rfl | rfl
   · exact ⟨_,by simp [hk,hT,hT2,hT3,hl1,hl2,hl3,hl4,hT4,hmin];with_reducible rfl,by simp⟩
   · exact ⟨_,by simp [hk,hT,hT2,hT3,hl1,hl2,hl3,hl4,hT4,hmin];with_reducible rfl,by simp⟩
   · exact ⟨_,by simp [hk,hT,hT2,hT3,hl1,hl2,hl3,hl4,hT4,hmin];with_reducible rfl,by simp⟩
   · exact ⟨_,by simp [hk,hT,hT2,hT3,hl1,hl2,hl3,hl4,hT4,hmin];with_reducible rfl,by simp⟩
   · exact ⟨_,by simp [hk,hT,hT2,hT3,hl1,hl2,hl3,hl4,hT4,hmin];with_reducible rfl,by simp⟩
   · exact ⟨_,by simp [hk,hT,hT2,hT3,hl1,hl2,hl3,hl4,hT4,hmin];with_reducible rfl,by simp⟩
   · exact ⟨_,by simp [hk,hT,hT2,hT3,hl1,hl2,hl3,hl4,hT4,hmin];with_reducible rfl,by simp⟩
   · exact ⟨_,by simp [hk,hT,hT2,hT3,hl1,hl2,hl3,hl4,hT4,hmin];with_reducible rfl,by simp⟩
   · exact ⟨_,by simp [hk,hT,hT2,hT3,hl1,hl2,hl3,hl4,hT4,hmin];with_reducible rfl,by simp⟩
   · exact ⟨_,by simp [hk,hT,hT2,hT3,hl1,hl2,hl3,hl4,hT4,hmin];with_reducible rfl,by simp⟩
   · exact ⟨_,by simp [hk,hT,hT2,hT3,hl1,hl2,hl3,hl4,hT4,hmin];with_reducible rfl,by simp⟩
 repeat (first|apply wA|apply wS|refine wr (by simp;with_reducible rfl) ?_|refine wq (by simp;with_reducible rfl) ?_|refine wt (by simpa) ?_|refine wf (by simpa) ?_|refine xt (by simpa) ?_|refine xf (by simpa) ?_|apply wB|apply Qab|refine wX ?_|refine wY ?_|refine wR ?_|refine wK ?_|refine wE ?_)
 simp [Jay]
end Go.Idl
namespace Go.Idl
open Go
def Qe2:Int→List Int→Int
 | m,[]=>m
 | m,x::r=>Qe2 (min m x) r
theorem Jqw (x:Int) (r:List Int) (c:Bool) (hl:r.length≤1000000) :
 Ev tb Jnw [] [L (x::r) c] [] ⟨I (Qe2 x r),[],[],[]⟩:=by
 have loop:∀ (m i:Nat) (y:Int),i+m=r.length→wp tb (.loop Jl9) { T:=[(0,L (x::r) c),(3,I y),(4,I (i+1))],loc:=[],M:=[] }
  (fun ex st=>ex=.exit 0∧st={ T:=[(0,L (x::r) c),(3,I (Qe2 y (r.drop i))),(4,I (r.length+1)),(15,Bo false)],loc:=[],M:=[] }):=by
  intro m
  induction m with
  | zero =>
    intro i y hi
    obtain ⟨h1,h2⟩:=Qfs hi
    have h3:i=r.length:=hi
    subst h3
    refine wW ?_
    repeat (first|apply wA|apply wS|refine wr (by simp;with_reducible rfl) ?_|refine wq (by simp;with_reducible rfl) ?_|refine wt (by simpa) ?_|refine wf (by simpa) ?_|refine xt (by simpa) ?_|refine xf (by simpa) ?_|apply wB|apply Qab|refine wX ?_|refine wY ?_|refine wR ?_|refine wK ?_|refine wE ?_)
    exact ⟨rfl,by simp [Qe2]⟩
  | succ m ih =>
    intro i y hi
    obtain ⟨hi2,h2,h3⟩:=Qfk hi
    have w2:IntKind.i64.wrap ((i:Int)+1+1)=(i:Int)+1+1:=Qae (by omega) (by omega)
    have h4:(i:Int) < r.length:=by omega
    rw [h2]
    refine wW ?_
    repeat (first|apply wA|apply wS|refine wr (by simp [hi2,w2,h4];with_reducible rfl) ?_|refine wq (by simp [hi2,w2,h4];with_reducible rfl) ?_|refine wt (by simpa [hi2,w2,h4]) ?_|refine wf (by simpa [hi2,w2,h4]) ?_|refine xt (by simpa [hi2,w2,h4]) ?_|refine xf (by simpa [hi2,w2,h4]) ?_|apply wB|apply Qab|refine wX ?_|refine wY ?_|refine wR ?_|refine wK ?_|refine wE ?_)
    have:=ih (i+1) (min y r[i]) (by omega)
    simp only [Qio,Jfj,Qe2] at this ⊢
    exact this
 have h0:¬ ((r.length:Int)+1 < 1):=by omega
 refine cW zt75 rfl ?_
 repeat (first|apply wA|apply wS|refine wr (by simp [h0];with_reducible rfl) ?_|refine wq (by simp [h0];with_reducible rfl) ?_|refine wt (by simpa [h0]) ?_|refine wf (by simpa [h0]) ?_|refine xt (by simpa [h0]) ?_|refine xf (by simpa [h0]) ?_|apply wB|apply Qab|refine wX ?_|refine wY ?_|refine wR ?_|refine wK ?_|refine wE ?_)
 have:=loop r.length 0 x (by omega)
 simp at this
 refine Qah this ?_
 rintro ex st ⟨rfl,rfl⟩
 simp only [if_true]
 repeat (first|apply wA|apply wS|refine wr (by simp;with_reducible rfl) ?_|refine wq (by simp;with_reducible rfl) ?_|refine wt (by simpa) ?_|refine wf (by simpa) ?_|refine xt (by simpa) ?_|refine xf (by simpa) ?_|apply wB|apply Qab|refine wX ?_|refine wY ?_|refine wR ?_|refine wK ?_|refine wE ?_)
 simp [Jw3]
theorem Qoa:∀ (r:List Int) (m b:Int),(b≤Qe2 m r) ↔ b≤m∧∀ x ∈ r,b≤x
 | [],m,b=>by simp [Qe2]
 | x::r,m,b=>by
   rw [Qe2,Qoa r]
   constructor
   · rintro ⟨h1,h2⟩
     exact ⟨by omega,by intro y hy;rcases List.mem_cons.1 hy with rfl | hy;omega;exact h2 y hy⟩
   · rintro ⟨h1,h2⟩
     have:=h2 x (by simp)
     exact ⟨by omega,fun y hy=>h2 y (by simp [hy])⟩
def asc0 (s:List Int):List Int:=(fall s).reverse
def overT (s:List Int) (i:Nat):Int:=((asc0 s).take (i+1)).sum - ((i:Int)+1) * i / 2
def over (s:List Int):List Int:=Qt3 s.length (overT s)
end Go.Idl
namespace Go.Idl
open Go
theorem sum01 (r:List Int) (h:∀ x ∈ r,0≤x∧x≤1):0≤r.sum∧r.sum≤r.length:=by
 induction r with
 | nil=>simp
 | cons x xs ih =>
   have h1:=h x (by simp)
   have h2:=ih fun y hy=>h y (by simp [hy])
   simp only [List.sum_cons,List.length_cons];omega
end Go.Idl
namespace Go.Idl
open Go
theorem Qnk (xs:List Int) (c:Bool) (y:Int) (hl:xs.length≤1000000) :
 Ev tb Qss [] [L xs c,I y] [] ⟨Bo (decide (y ∈ xs)),[],[],[]⟩:=by
 have loop:∀ (m i:Nat),i+m=xs.length→wp tb (.loop Jdp) { T:=[(0,L xs c),(1,I y),(5,I i)],loc:=[],M:=[] }
  (fun ex st=>(ex=.exit 0∧y ∉ xs.drop i∧st={ T:=[(0,L xs c),(1,I y),(5,I xs.length),(9,Bo false)],loc:=[],M:=[] }) ∨
    ex=.ret∧y ∈ xs.drop i∧st={ T:=[(4,Bo true)],loc:=[],M:=[] }):=by
  intro m
  induction m with
  | zero =>
    intro i hi
    obtain ⟨h1,h2⟩:=Qfs hi
    have h3:i=xs.length:=hi
    subst h3
    refine wW ?_
    repeat (first|apply wA|apply wS|refine wr (by simp;with_reducible rfl) ?_|refine wq (by simp;with_reducible rfl) ?_|refine wt (by simpa) ?_|refine wf (by simpa) ?_|refine xt (by simpa) ?_|refine xf (by simpa) ?_|apply wB|apply Qab|refine wX ?_|refine wY ?_|refine wR ?_|refine wK ?_|refine wE ?_)
    exact .inl ⟨rfl,by rw [h2];simp,rfl⟩
  | succ m ih =>
    intro i hi
    obtain ⟨hi2,h2,h3⟩:=Qfk hi
    have w2:IntKind.i64.wrap ((i:Int)+1)=((i+1:Nat):Int):=Qbg (by omega)
    rw [h2]
    by_cases he:xs[i]=y
    · refine wW ?_
      repeat (first|apply wA|apply wS|refine wr (by simp [hi2,he];with_reducible rfl) ?_|refine wq (by simp [hi2,he];with_reducible rfl) ?_|refine wt (by simpa [hi2,he]) ?_|refine wf (by simpa [hi2,he]) ?_|refine xt (by simpa [hi2,he]) ?_|refine xf (by simpa [hi2,he]) ?_|apply wB|apply Qab|refine wX ?_|refine wY ?_|refine wR ?_|refine wK ?_|refine wE ?_)
      exact .inr ⟨rfl,by simp [he],rfl⟩
    · refine wW ?_
      repeat (first|apply wA|apply wS|refine wr (by simp [hi2,he,w2];with_reducible rfl) ?_|refine wq (by simp [hi2,he,w2];with_reducible rfl) ?_|refine wt (by simpa [hi2,he,w2]) ?_|refine wf (by simpa [hi2,he,w2]) ?_|refine xt (by simpa [hi2,he,w2]) ?_|refine xf (by simpa [hi2,he,w2]) ?_|apply wB|apply Qab|refine wX ?_|refine wY ?_|refine wR ?_|refine wK ?_|refine wE ?_)
      refine Qah (ih (i+1) (by omega)) ?_
      rintro ex st (⟨rfl,h,rfl⟩ | ⟨rfl,h,rfl⟩)
      · exact .inl ⟨rfl,by rw [List.mem_cons];rintro (h' | h');exact he h'.symm;exact h h',rfl⟩
      · exact .inr ⟨rfl,List.mem_cons_of_mem _ h,rfl⟩
 refine cW zt131 rfl ?_
 repeat (first|apply wA|apply wS|refine wr (by simp;with_reducible rfl) ?_|refine wq (by simp;with_reducible rfl) ?_|refine wt (by simpa) ?_|refine wf (by simpa) ?_|refine xt (by simpa) ?_|refine xf (by simpa) ?_|apply wB|apply Qab|refine wX ?_|refine wY ?_|refine wR ?_|refine wK ?_|refine wE ?_)
 refine Qah (loop xs.length 0 (by omega)) ?_
 rintro ex st (⟨rfl,h,rfl⟩ | ⟨rfl,h,rfl⟩)
 · simp only [if_true]
   simp only [List.drop_zero] at h
   repeat (first|apply wA|apply wS|refine wr (by simp;with_reducible rfl) ?_|refine wq (by simp;with_reducible rfl) ?_|refine wt (by simpa) ?_|refine wf (by simpa) ?_|refine xt (by simpa) ?_|refine xf (by simpa) ?_|apply wB|apply Qab|refine wX ?_|refine wY ?_|refine wR ?_|refine wK ?_|refine wE ?_)
   simp [Qxn,h]
 · simp only [List.drop_zero] at h
   simp [Qxn,h]
end Go.Idl
namespace Go.Idl
open Go
abbrev Str (s:ByteArray):IV:=.sc (.string s)
def Jdl (l:List ByteArray):List (List IV):=l.map fun s=>[Str s]
@[simp] theorem Jx5 (l:List ByteArray):(Jdl l).length=l.length:=by simp [Jdl]
@[simp] theorem Jxd (l:List ByteArray) (i:Nat) (h:i < (Jdl l).length):(Jdl l)[i]=[IV.sc (.string (l[i]'(by simpa [Jdl] using h)))]:=by simp [Jdl]
@[simp] theorem strs_get? (l:List ByteArray) (i:Nat):(Jdl l)[i]? = l[i]?.map fun s=>[IV.sc (.string s)]:=by simp [Jdl]
end Go.Idl
namespace Go.Idl
open Go
def gls (n:Int) (gl:List (List (Int×Int))):List (List IV):=gl.map fun es=>[I n,O2 es]
@[simp] theorem gls_len (n:Int) (gl):(gls n gl).length=gl.length:=by simp [gls]
@[simp] theorem gls_one (n:Int) (gl) (es:List (Int×Int)):gls n gl++[[IV.sc (.int .i64 n),.own 2 (eds es)]]=gls n (gl++[es]):=by simp [gls]
@[simp] theorem Jyz (n:Int) (gl):(gls n gl).isEmpty=gl.isEmpty:=by cases gl <;> rfl
@[simp] theorem Jw5 (n:Int) (gl) (k:Nat):(gls n gl).take k=gls n (gl.take k):=by simp [gls,List.map_take]
@[simp] theorem gls_all (n:Int) (gl):((gls n gl).all fun x=>x.all IV.isData)=true:=by
  induction gl with
  | nil=>rfl
  | cons x xs ih=>simp only [gls,List.map_cons,List.all_cons] at *;rw [ih];rfl
@[simp] theorem Jqt (n:Int) (gl):Qbw (gls n gl)=true:=by
  induction gl with
  | nil=>rfl
  | cons x xs ih=>simp only [gls,List.map_cons,Qbw,Qbc,Qb5,Qxb] at *;rw [ih];rfl
end Go.Idl
namespace Go.Idl
open Go
abbrev GF:=List (List (Int×Int)×Bool)
def glf (n:Int) (R:GF):List (List IV):=R.map fun x=>[I n,L2 x.1 x.2]
@[simp] theorem glf_len (n:Int) (R:GF):(glf n R).length=R.length:=by simp [glf]
@[simp] theorem glf_nil (n:Int):glf n []=[]:=rfl
@[simp] theorem glf_app (n:Int) (R S:GF):glf n R++glf n S=glf n (R++S):=by simp [glf]
@[simp] theorem Jxi (n:Int) (R:GF) (k:Nat):(glf n R).take k=glf n (R.take k):=by simp [glf,List.map_take]
@[simp] theorem Jyp (n:Int) (R:GF):((glf n R).all fun x=>x.all IV.isData)=true:=by
  induction R with
  | nil=>rfl
  | cons x xs ih=>simp only [glf,List.map_cons,List.all_cons] at *;rw [ih];rfl
end Go.Idl
namespace Go.Idl
open Go
@[simp] theorem un_neg (n:Int):Op.unary .neg (.int .i64 n)=.pure (.int .i64 (IntKind.i64.wrap (-n))):=by
  rw [← Int.zero_sub];rfl
def gs (r c:List Int) (i:Nat):Int:=-((fall r).take (i+1)).sum+(c.map fun x:Int=>min x ((i:Int)+1)).sum
end Go.Idl
namespace Go.Idl
open Go
def TT (n:Nat) (t:List (List Int)):Prop:=t.length=n∧∀ r ∈ t,r.length=n∧∀ x ∈ r,0≤x∧x≤1
theorem TT.set {n:Nat} {t:List (List Int)} (h:TT n t) {a b:Nat} {v:Int} (ha:a < t.length) (hv:0≤v∧v≤1):TT n (t.set a (t[a].set b v)):=by
 refine ⟨by simpa using h.1,fun r hr=>?_⟩
 have h1:=h.2 _ (List.getElem_mem ha)
 rcases List.mem_or_eq_of_mem_set hr with hr | rfl
 · exact h.2 r hr
 · refine ⟨by simpa using h1.1,fun x hx=>?_⟩
   rcases List.mem_or_eq_of_mem_set hx with hx | rfl
   · exact h1.2 x hx
   · exact hv
end Go.Idl
namespace Go.Idl
open Go
def MM (h w:Nat) (t:List (List Int)):Prop:=t.length=h∧∀ r ∈ t,r.length=w∧∀ x ∈ r,0≤x∧x≤1
end Go.Idl
namespace Go.Idl
open Go
theorem MM.sums {h w:Nat} {t:List (List Int)} (ht:MM h w t) (hw:w≤5):∀ x ∈ t.map List.sum,0≤x∧x≤5:=by
 intro x hx
 obtain ⟨r,hr,rfl⟩:=List.mem_map.1 hx
 have h1:=ht.2 r hr
 have:=sum01 r h1.2
 omega
end Go.Idl
namespace Go.Idl
open Go
def Qnh (p:Int×Int→Bool) (i:Int):List (Int×Int)→Int
 | []=>-1
 | x::xs=>if p x then i else Qnh p (i+1) xs
theorem Qkq (xs:List (Int×Int)) (F:Lab) (caps:List IV) (M:List Qac) (p:Int×Int→Bool) (hl:xs.length≤1000000)
 (hp:∀ x ∈ xs,Ev tb F [] (.agg [I x.1,I x.2]::caps) (M++[[]]) ⟨Bo (p x),[],M++[[]],[]⟩) :
 Ev tb Qvk [0] [O2 xs,.fn F caps] M ⟨I (Qnh p 0 xs),[O2 xs],M,[]⟩:=by
 have loop:∀ (m i:Nat),i+m=xs.length→wp tb (.loop Jc2) { T:=[(0,O2 xs),(1,.fn F caps),(7,I xs.length),(8,I i)],loc:=[],M:=M }
  (fun ex st=>(ex=.exit 0∧Qnh p i (xs.drop i)=-1∧st={ T:=[(0,O2 xs),(1,.fn F caps),(7,I xs.length),(8,I xs.length),(9,Bo false)],loc:=[],M:=M }) ∨
    ex=.ret∧st={ T:=[(0,O2 xs),(4,I (Qnh p i (xs.drop i)))],loc:=[],M:=M }):=by
  intro m
  induction m with
  | zero =>
    intro i hi
    have h2:xs.drop i=[]:=List.drop_of_length_le (by omega)
    have h3:i=xs.length:=hi
    subst h3
    refine wW ?_
    repeat (first|apply wA|apply wS|refine wr (by simp;with_reducible rfl) ?_|refine wq (by simp;with_reducible rfl) ?_|refine wt (by simpa) ?_|refine wf (by simpa) ?_|refine xt (by simpa) ?_|refine xf (by simpa) ?_|apply wB|apply Qab|refine wX ?_|refine wY ?_|refine wR ?_|refine wK ?_|refine wE ?_)
    refine .inl ⟨rfl,by rw [h2];rfl,rfl⟩
  | succ m ih =>
    intro i hi
    have hi2:i < xs.length:=by omega
    have h2:xs.drop i=xs[i]::xs.drop (i+1):=List.drop_eq_getElem_cons hi2
    have e1:=Qaa (hp _ (List.getElem_mem hi2))
    have w1:IntKind.i64.wrap ((i:Int)+1)=((i+1:Nat):Int):=Qbg (by omega)
    have gx:(eds xs)[i]'(by simpa using hi2)=[I xs[i].1,I xs[i].2]:=by simp [eds]
    rw [h2]
    cases hpx:p xs[i] with
    | true =>
      refine wW ?_
      repeat (first|apply wA|apply wS|refine wr (by simp [e1,hi2,w1,hpx,gx];with_reducible rfl) ?_|refine wq (by simp [e1,hi2,w1,hpx,gx];with_reducible rfl) ?_|refine wt (by simpa [e1,hi2,w1,hpx,gx]) ?_|refine wf (by simpa [e1,hi2,w1,hpx,gx]) ?_|refine xt (by simpa [e1,hi2,w1,hpx,gx]) ?_|refine xf (by simpa [e1,hi2,w1,hpx,gx]) ?_|apply wB|apply Qab|refine wX ?_|refine wY ?_|refine wR ?_|refine wK ?_|refine wE ?_)
      refine .inr ⟨rfl,by simp [Qnh,hpx]⟩
    | false =>
      refine wW ?_
      repeat (first|apply wA|apply wS|refine wr (by simp [e1,hi2,w1,hpx,gx];with_reducible rfl) ?_|refine wq (by simp [e1,hi2,w1,hpx,gx];with_reducible rfl) ?_|refine wt (by simpa [e1,hi2,w1,hpx,gx]) ?_|refine wf (by simpa [e1,hi2,w1,hpx,gx]) ?_|refine xt (by simpa [e1,hi2,w1,hpx,gx]) ?_|refine xf (by simpa [e1,hi2,w1,hpx,gx]) ?_|apply wB|apply Qab|refine wX ?_|refine wY ?_|refine wR ?_|refine wK ?_|refine wE ?_)
      have:=ih (i+1) (by omega)
      simp only [Qnh,hpx] at this ⊢
      exact this
 refine cW zt448 rfl ?_
 repeat (first|apply wA|apply wS|refine wr (by simp;with_reducible rfl) ?_|refine wq (by simp;with_reducible rfl) ?_|refine wt (by simpa) ?_|refine wf (by simpa) ?_|refine xt (by simpa) ?_|refine xf (by simpa) ?_|apply wB|apply Qab|refine wX ?_|refine wY ?_|refine wR ?_|refine wK ?_|refine wE ?_)
 refine Qah (loop xs.length 0 (by simp)) ?_
 rintro ex st (⟨rfl,h,rfl⟩ | ⟨rfl,rfl⟩)
 · simp only [if_true]
   repeat (first|apply wA|apply wS|refine wr (by simp;with_reducible rfl) ?_|refine wq (by simp;with_reducible rfl) ?_|refine wt (by simpa) ?_|refine wf (by simpa) ?_|refine xt (by simpa) ?_|refine xf (by simpa) ?_|apply wB|apply Qab|refine wX ?_|refine wY ?_|refine wR ?_|refine wK ?_|refine wE ?_)
   simp at h
   simp [Qus,h]
 · simp [Qus]
theorem Qgi (p:Int×Int→Bool):∀ (xs:List (Int×Int)) (i:Nat),(Qnh p i xs=-1∧∀ x ∈ xs,p x=false) ∨ ∃ k:Nat,∃ h:k < xs.length,Qnh p i xs=((i+k:Nat):Int)∧p xs[k]=true∧∀ x ∈ xs.take k,p x=false
 | [],i=>.inl ⟨rfl,by simp⟩
 | x::r,i=>by
   cases hp:p x with
   | true=>exact .inr ⟨0,by simp,by simp [Qnh,hp],hp,by simp⟩
   | false =>
     rcases Qgi p r (i+1) with ⟨h1,h2⟩ | ⟨k,hk,h1,h2,h3⟩
     · refine .inl ⟨?_,fun y hy=>?_⟩
       · simp only [Qnh,hp,Bool.false_eq_true,if_false];exact h1
       · rcases List.mem_cons.1 hy with rfl | hy
         · exact hp
         · exact h2 y hy
     · refine .inr ⟨k+1,by simp;exact hk,?_,h2,fun y hy=>?_⟩
       · simp only [Qnh,hp,Bool.false_eq_true,if_false]
         rw [show ((i:Int)+1)=((i+1:Nat):Int) by omega,h1];omega
       · rw [List.take_succ_cons] at hy
         rcases List.mem_cons.1 hy with rfl | hy
         · exact hp
         · exact h3 y hy
theorem Qy6 (xs:List (Int×Int)) (F:Lab) (caps:List IV) (M:List Qac) (p:Int×Int→Bool) (hl:xs.length≤1000000)
 (hp:∀ bs,∀ x ∈ xs,Ev tb F [] (.agg [I x.1,I x.2]::caps) (M++[bs]) ⟨Bo (p x),[],M++[bs],[]⟩):∀ (m j i:Nat) (s:List (Int×Int)) (bs:Qac),j+m=xs.length→i < j→s.length=xs.length→s.take i=(xs.take j).filter (fun x=>!p x)→s.drop j=xs.drop j →
 wp tb (.loop Qxu) { T:=[(0,O2 s),(1,.fn F caps),(5,I i),(6,I j)],loc:=bs,M:=M }
  (fun ex st=>ex=.exit 0∧∃ (i:Nat) (s:List (Int×Int)) (bs:Qac),(i < xs.length∧s.length=xs.length∧s.take i=xs.filter (fun x=>!p x))∧st={ T:=[(0,O2 s),(1,.fn F caps),(5,I i),(6,I xs.length),(19,Bo false)],loc:=bs,M:=M }):=by
 intro m
 induction m with
 | zero =>
   intro j i s bs hj hij hs h1 h2
   have h3:j=xs.length:=hj
   subst h3
   rw [List.take_length] at h1
   refine wW ?_
   repeat (first|apply wA|apply wS|refine wr (by simp [hs];with_reducible rfl) ?_|refine wq (by simp [hs];with_reducible rfl) ?_|refine wt (by simpa [hs]) ?_|refine wf (by simpa [hs]) ?_|refine xt (by simpa [hs]) ?_|refine xf (by simpa [hs]) ?_|apply wB|apply Qab|refine wX ?_|refine wY ?_|refine wR ?_|refine wK ?_|refine wE ?_)
   exact ⟨rfl,i,s,bs,⟨hij,hs,h1⟩,rfl⟩
 | succ m ih =>
   intro j i s bs hj hij hs h1 h2
   have hjl:j < xs.length:=by omega
   have hjs:j < s.length:=by omega
   have hil:i < s.length:=by omega
   have hil':i < xs.length:=by omega
   have hsj:s[j]=xs[j]:=by
    have h3:s.drop j=s[j]::s.drop (j+1):=List.drop_eq_getElem_cons hjs
    have h4:xs.drop j=xs[j]::xs.drop (j+1):=List.drop_eq_getElem_cons hjl
    rw [h3,h4] at h2
    exact (List.cons.inj h2).1
   have hd2:s.drop (j+1)=xs.drop (j+1):=by
    have h3:s.drop j=s[j]::s.drop (j+1):=List.drop_eq_getElem_cons hjs
    have h4:xs.drop j=xs[j]::xs.drop (j+1):=List.drop_eq_getElem_cons hjl
    rw [h3,h4] at h2
    exact (List.cons.inj h2).2
   have gx:(eds s)[j]'(by simpa using hjs)=[I xs[j].1,I xs[j].2]:=by simp [eds,hsj]
   have e1:=fun bs=>Qaa (hp bs _ (List.getElem_mem hjl))
   have w1:IntKind.i64.wrap ((j:Int)+1)=((j+1:Nat):Int):=Qbg (by omega)
   have w2:IntKind.i64.wrap ((i:Int)+1)=((i+1:Nat):Int):=Qbg (by omega)
   have ht:(xs.take (j+1)).filter (fun x=>!p x)=(xs.take j).filter (fun x=>!p x)++(if p xs[j] then [] else [xs[j]]):=by
    rw [List.take_succ_eq_append_getElem hjl,List.filter_append,List.filter_cons,List.filter_nil]
    cases p xs[j] <;> rfl
   cases hpx:p xs[j] with
   | true =>
     rw [hpx,if_pos rfl,List.append_nil] at ht
     have hn:=fun bs=>ih (j+1) i s bs (by omega) (by omega) hs (by rw [ht];exact h1) hd2
     refine wW ?_
     repeat (first|apply wA|apply wS|refine wr (by simp [hs,hjl,hjs,gx,e1,hpx,w1];with_reducible rfl) ?_|refine wq (by simp [hs,hjl,hjs,gx,e1,hpx,w1];with_reducible rfl) ?_|refine wt (by simpa [hs,hjl,hjs,gx,e1,hpx,w1]) ?_|refine wf (by simpa [hs,hjl,hjs,gx,e1,hpx,w1]) ?_|refine xt (by simpa [hs,hjl,hjs,gx,e1,hpx,w1]) ?_|refine xf (by simpa [hs,hjl,hjs,gx,e1,hpx,w1]) ?_|apply wB|apply Qab|refine wX ?_|refine wY ?_|refine wR ?_|refine wK ?_|refine wE ?_)
     exact hn _
   | false =>
     rw [hpx,if_neg (by simp)] at ht
     have hn:=fun bs=>ih (j+1) (i+1) (s.set i xs[j]) bs (by omega) (by omega) (by simpa using hs) (by
      rw [ht,← h1,List.take_succ_eq_append_getElem (by simpa using hil),List.take_set_of_le (Nat.le_refl _),List.getElem_set_self]) (by
      rw [List.drop_set_of_lt (by omega)];exact hd2)
     refine wW ?_
     repeat (first|apply wA|apply wS|refine wr (by simp [hs,hjl,hjs,gx,e1,hpx,w1,w2,hil,hil',Qhu];with_reducible rfl) ?_|refine wq (by simp [hs,hjl,hjs,gx,e1,hpx,w1,w2,hil,hil',Qhu];with_reducible rfl) ?_|refine wt (by simpa [hs,hjl,hjs,gx,e1,hpx,w1,w2,hil,hil',Qhu]) ?_|refine wf (by simpa [hs,hjl,hjs,gx,e1,hpx,w1,w2,hil,hil',Qhu]) ?_|refine xt (by simpa [hs,hjl,hjs,gx,e1,hpx,w1,w2,hil,hil',Qhu]) ?_|refine xf (by simpa [hs,hjl,hjs,gx,e1,hpx,w1,w2,hil,hil',Qhu]) ?_|apply wB|apply Qab|refine wX ?_|refine wY ?_|refine wR ?_|refine wK ?_|refine wE ?_)
     exact hn _
theorem Qfq (xs:List (Int×Int)):((eds xs).all fun x=>x.all IV.isSc)=true:=by
 induction xs with
 | nil=>rfl
 | cons x xs ih=>simp only [eds,List.map_cons,List.all_cons] at *;rw [ih];rfl
theorem Qfx (xs:List (Int×Int)) (F:Lab) (caps:List IV) (M:List Qac) (p:Int×Int→Bool) (hl:xs.length≤1000000)
 (hp:∀ bs M' x,x ∈ xs→Ev tb F [] (.agg [I x.1,I x.2]::caps) (M++[bs]++M') ⟨Bo (p x),[],M++[bs]++M',[]⟩) :
 Ev tb Qtk [] [O2 xs,.fn F caps] M ⟨O2 (xs.filter fun x=>!p x),[],M,[]⟩:=by
 have e1:=Qaa (Qkq xs F caps (M++[[]]) p hl (fun x hx=>hp [] [[]] x hx))
 rcases Qgi p xs 0 with ⟨h1,h2⟩ | ⟨k,hk,h1,h2,h3⟩
 · rw [show ((0:Nat):Int)=0 from rfl] at h1
   rw [h1] at e1
   have hf:(xs.filter fun x=>!p x)=xs:=List.filter_eq_self.2 fun x hx=>by rw [h2 x hx];rfl
   rw [hf]
   refine cW Jn8 rfl ?_
   repeat (first|apply wA|apply wS|refine wr (by simp [e1];with_reducible rfl) ?_|refine wq (by simp [e1];with_reducible rfl) ?_|refine wt (by simpa [e1]) ?_|refine wf (by simpa [e1]) ?_|refine xt (by simpa [e1]) ?_|refine xf (by simpa [e1]) ?_|apply wB|apply Qab|refine wX ?_|refine wY ?_|refine wR ?_|refine wK ?_|refine wE ?_)
   simp [Qv1]
 · rw [show ((0:Nat):Int)=0 from rfl,Nat.zero_add] at h1
   rw [h1] at e1
   have hk0:¬ (k:Int)=-1:=by omega
   have w1:IntKind.i64.wrap ((k:Int)+1)=((k+1:Nat):Int):=Qbg (by omega)
   have hlo:=Qy6 xs F caps M p hl (fun bs x hx=>by simpa using hp bs [] x hx) (xs.length - (k+1)) (k+1) k xs [] (by omega) (by omega) rfl (by
    rw [List.take_succ_eq_append_getElem hk,List.filter_append,List.filter_cons,h2]
    simp only [Bool.not_true,Bool.false_eq_true,if_false,List.filter_nil,List.append_nil]
    exact (List.filter_eq_self.2 fun x hx=>by rw [h3 x hx];rfl).symm) rfl
   refine cW Jn8 rfl ?_
   repeat (first|apply wA|apply wS|refine wr (by simp [e1,hk0,w1];with_reducible rfl) ?_|refine wq (by simp [e1,hk0,w1];with_reducible rfl) ?_|refine wt (by simpa [e1,hk0,w1]) ?_|refine wf (by simpa [e1,hk0,w1]) ?_|refine xt (by simpa [e1,hk0,w1]) ?_|refine xf (by simpa [e1,hk0,w1]) ?_|apply wB|apply Qab|refine wX ?_|refine wY ?_|refine wR ?_|refine wK ?_|refine wE ?_)
   refine Qah hlo ?_
   rintro ex st ⟨rfl,i,s,bs,⟨k1,k2,k3⟩,rfl⟩
   simp only [if_true]
   have hil:i≤xs.length:=by omega
   have hz:s.drop xs.length=[]:=List.drop_of_length_le (by omega)
   have hti:(s.take i).length=i:=by simp;omega
   have hfl:(xs.filter fun x=>!p x).length=i:=by rw [← k3];exact hti
   generalize (xs.filter fun x=>!p x)=G at *
   have htk:∀ Z:List (List IV),(eds G++Z).take i=eds G:=fun Z=>by
    rw [List.take_append_of_le_length (by rw [Qu7];omega),List.take_of_length_le (by rw [Qu7];omega)]
   repeat (first|apply wA|apply wS|refine wr (by simp [k2,hil,↓Qfq,hz,k3,hti,hfl,htk];with_reducible rfl) ?_|refine wq (by simp [k2,hil,↓Qfq,hz,k3,hti,hfl,htk];with_reducible rfl) ?_|refine wt (by simpa [k2,hil,↓Qfq,hz,k3,hti,hfl,htk]) ?_|refine wf (by simpa [k2,hil,↓Qfq,hz,k3,hti,hfl,htk]) ?_|refine xt (by simpa [k2,hil,↓Qfq,hz,k3,hti,hfl,htk]) ?_|refine xf (by simpa [k2,hil,↓Qfq,hz,k3,hti,hfl,htk]) ?_|apply wB|apply Qab|refine wX ?_|refine wY ?_|refine wR ?_|refine wK ?_|refine wE ?_)
   simp [Qv1]
end Go.Idl
namespace Go.Idl
open Go
structure Qfz (n:Int) (es:List (Int×Int)):Prop where
 n1:-1≤n
 n2:n≤8
 len:es.length≤60
 el:∀ e ∈ es,-1≤e.1∧e.1≤8∧-1≤e.2∧e.2≤8
theorem Qfz.fit {n es} (h:Qfz n es):Fit es:=fun e he=>by have:=h.el e he;omega
theorem Qt6 {n:Nat} {es:List (Int×Int)} (hn:n≤7) (hs:es.Sublist (prs n)):Qfz n es :=
 ⟨by omega,by omega,by have:=Qw4 hn hs;omega,fun e he=>by have:=Jkb hs e he;omega⟩
theorem Qvx {n:Int} {es:List (Int×Int)} (h:Qfz n es) {k:Nat} {e:Int×Int} (he:-1≤e.1∧e.1≤8∧-1≤e.2∧e.2≤8):Qfz n (es.set k e) :=
 ⟨h.n1,h.n2,by rw [List.length_set];exact h.len,fun x hx=>by
   rcases List.mem_or_eq_of_mem_set hx with hx | rfl
   · exact h.el x hx
   · exact he⟩
theorem Qn1 (code:List Int) (c:Bool) (hc:Qgs code) (cnt:Nat) (hn:cnt≤80000) (A bs:Qac) (Ms:List Qac) :
 ∃ (n:Int) (es:List (Int×Int)) (k:Nat),Qfz n es∧k≤cnt+110 ∧
   Qco tb Qta [] [.bptr 0 A.length 0] ((A++R code c cnt::bs)::Ms)=some ⟨OG n es,[],(A++R code c k::bs)::Ms,[]⟩:=by
 obtain ⟨n,es,k1,hn7,hs,hk1,e1⟩:=Ql8 code c hc cnt (by omega) A bs (Ms++[[]])
 have e1:=Qaa e1
 have hS:=Qt6 hn7 hs
 have hel:=hS.len
 suffices hh:∃ r,(∃ (n:Int) (es:List (Int×Int)) (k:Nat),Qfz n es∧k≤cnt+110∧r=⟨OG n es,[],(A++R code c k::bs)::Ms,[]⟩)∧Ev tb Qta [] [.bptr 0 A.length 0] ((A++R code c cnt::bs)::Ms) r by
  obtain ⟨r,⟨n,es,k,q1,q2,rfl⟩,q3⟩:=hh
  exact ⟨n,es,k,q1,q2,Qaa q3⟩
 refine Qf7 Jzj rfl ?_
 by_cases h0:es.length=0
 · have h00:es=[]:=List.length_eq_zero_iff.1 h0
   subst h00
   repeat (first|apply wA|apply wS|refine wr (by simp [e1];with_reducible rfl) ?_|refine wq (by simp [e1];with_reducible rfl) ?_|refine wt (by simpa [e1]) ?_|refine wf (by simpa [e1]) ?_|refine xt (by simpa [e1]) ?_|refine xf (by simpa [e1]) ?_|apply wB|apply Qab|refine wX ?_|refine wY ?_|refine wR ?_|refine wK ?_|refine wE ?_)
   refine ⟨.inr rfl,_,⟨n,[],k1,hS,by omega,rfl⟩,?_⟩
   simp [Qog]
 have h1:(0:Int) < es.length:=by omega
 have h1':0 < es.length:=by omega
 obtain ⟨v,k2,hv,hk2,e2⟩:=Jco code c hc k1 (by omega) (es.length:Int) (by omega) A bs (Ms++[[]])
 have hv:=hv (by omega)
 have hvl:v < es.length:=by omega
 obtain ⟨u,k3,-,hk3,e3⟩:=Jco code c hc k2 (by omega) 30 (by omega) A bs (Ms++[[]])
 have hev:=hS.el es[v] (List.getElem_mem hvl)
 by_cases hu0:u=0
 · subst hu0
   obtain ⟨x,k4,hx,hk4,e4⟩:=Jyw code c hc k3 (by omega) [-1,7,es[v].2] (by simp) A bs (Ms++[[]])
   have hx:-1≤x∧x≤8:=by simp at hx;omega
   repeat (first|apply wA|apply wS|refine wr (by simp [e1,e2,e3,h1,h1'];with_reducible rfl) ?_|refine wq (by simp [e1,e2,e3,h1,h1'];with_reducible rfl) ?_|refine wt (by simpa [e1,e2,e3,h1,h1']) ?_|refine wf (by simpa [e1,e2,e3,h1,h1']) ?_|refine xt (by simpa [e1,e2,e3,h1,h1']) ?_|refine xf (by simpa [e1,e2,e3,h1,h1']) ?_|apply wB|apply Qab|refine wX ?_|refine wY ?_|refine wR ?_|refine wK ?_|refine wE ?_)
   refine Qm1 (by simp [hvl,e4];with_reducible rfl) (by simp;with_reducible rfl) ?_ ?_
   · intro p hp
     simp only [List.mem_cons,List.not_mem_nil,or_false] at hp
     rcases hp with rfl | rfl
     · exact ⟨_,by simp [hvl,e4];with_reducible rfl,by simp⟩
     · exact ⟨_,by simp [hvl,e4];with_reducible rfl,by simp⟩
   repeat (first|apply wA|apply wS|refine wr (by simp;with_reducible rfl) ?_|refine wq (by simp;with_reducible rfl) ?_|refine wt (by simpa) ?_|refine wf (by simpa) ?_|refine xt (by simpa) ?_|refine xf (by simpa) ?_|apply wB|apply Qab|refine wX ?_|refine wY ?_|refine wR ?_|refine wK ?_|refine wE ?_)
   refine ⟨.inr rfl,_,⟨n,es.set v (x,es[v].2),k4,Qvx hS ⟨by omega,by omega,by omega,by omega⟩,by omega,rfl⟩,?_⟩
   simp [Qog]
   rw [List.take_of_length_le (by simp)]
 by_cases hu1:u=1
 · subst hu1
   have hap:Qfz n (es++[es[v]]):=⟨hS.n1,hS.n2,by have:=Qw4 hn7 hs;simp;omega,fun e he=>by
    rcases List.mem_append.1 he with he | he
    · exact hS.el e he
    · simp at he;subst he;exact hev⟩
   have hlm:es.length+1≤274877906944:=by omega
   repeat (first|apply wA|apply wS|refine wr (by simp [e1,e2,e3,h1,h1'];with_reducible rfl) ?_|refine wq (by simp [e1,e2,e3,h1,h1'];with_reducible rfl) ?_|refine wt (by simpa [e1,e2,e3,h1,h1']) ?_|refine wf (by simpa [e1,e2,e3,h1,h1']) ?_|refine xt (by simpa [e1,e2,e3,h1,h1']) ?_|refine xf (by simpa [e1,e2,e3,h1,h1']) ?_|apply wB|apply Qab|refine wX ?_|refine wY ?_|refine wR ?_|refine wK ?_|refine wE ?_)
   refine Qm1 (by simp [hvl,hlm];with_reducible rfl) (by simp;with_reducible rfl) ?_ ?_
   · intro p hp
     simp only [List.mem_cons,List.not_mem_nil,or_false] at hp
     subst hp
     exact ⟨_,by simp [hvl,hlm];with_reducible rfl,by simp⟩
   repeat (first|apply wA|apply wS|refine wr (by simp;with_reducible rfl) ?_|refine wq (by simp;with_reducible rfl) ?_|refine wt (by simpa) ?_|refine wf (by simpa) ?_|refine xt (by simpa) ?_|refine xf (by simpa) ?_|apply wB|apply Qab|refine wX ?_|refine wY ?_|refine wR ?_|refine wK ?_|refine wE ?_)
   refine ⟨.inr rfl,_,⟨n,es++[es[v]],k3,hap,by omega,rfl⟩,?_⟩
   simp [Qog]
   rw [List.take_of_length_le (by simp)]
 have hu0':¬ (u:Int)=0:=by omega
 have hu1':¬ (u:Int)=1:=by omega
 by_cases hu2:u=2
 · subst hu2
   obtain ⟨x,k4,hx,hk4,e4⟩:=Jyw code c hc k3 (by omega) [-1,8,2] (by simp) A bs (Ms++[[]])
   have hx:-1≤x∧x≤8:=by simp at hx;omega
   repeat (first|apply wA|apply wS|refine wr (by simp [e1,e2,e3,e4,h1,h1'];with_reducible rfl) ?_|refine wq (by simp [e1,e2,e3,e4,h1,h1'];with_reducible rfl) ?_|refine wt (by simpa [e1,e2,e3,e4,h1,h1']) ?_|refine wf (by simpa [e1,e2,e3,e4,h1,h1']) ?_|refine xt (by simpa [e1,e2,e3,e4,h1,h1']) ?_|refine xf (by simpa [e1,e2,e3,e4,h1,h1']) ?_|apply wB|apply Qab|refine wX ?_|refine wY ?_|refine wR ?_|refine wK ?_|refine wE ?_)
   refine ⟨.inr rfl,_,⟨x,es,k4,⟨hx.1,hx.2,hS.len,hS.el⟩,by omega,rfl⟩,?_⟩
   simp [Qog]
 · have hu2':¬ (u:Int)=2:=by omega
   repeat (first|apply wA|apply wS|refine wr (by simp [e1,e2,e3,h1,h1',hu0,hu1,hu2,hu0',hu1',hu2'];with_reducible rfl) ?_|refine wq (by simp [e1,e2,e3,h1,h1',hu0,hu1,hu2,hu0',hu1',hu2'];with_reducible rfl) ?_|refine wt (by simpa [e1,e2,e3,h1,h1',hu0,hu1,hu2,hu0',hu1',hu2']) ?_|refine wf (by simpa [e1,e2,e3,h1,h1',hu0,hu1,hu2,hu0',hu1',hu2']) ?_|refine xt (by simpa [e1,e2,e3,h1,h1',hu0,hu1,hu2,hu0',hu1',hu2']) ?_|refine xf (by simpa [e1,e2,e3,h1,h1',hu0,hu1,hu2,hu0',hu1',hu2']) ?_|apply wB|apply Qab|refine wX ?_|refine wY ?_|refine wR ?_|refine wK ?_|refine wE ?_)
   refine ⟨.inr rfl,_,⟨n,es,k3,hS,by omega,rfl⟩,?_⟩
   simp [Qog]
end Go.Idl
namespace Go.Idl
open Go
theorem Jcm (n:Nat) (es:List (Int×Int)):(Qdu n es).length=n:=by rw [Qdu,Qdx];simp
end Go.Idl
namespace Go.Idl
open Go
theorem Qd8 (e0:Nat) (xs:List (Int×Int)) (c:Bool) (he0:e0=2 ∨ xs=[]) (F:Lab) (caps:List IV) (M:List Qac) (p:Int×Int→Bool) (hl:xs.length≤1000000)
 (hp:∀ x ∈ xs,Ev tb F [] (.agg [I x.1,I x.2]::caps) (M++[[]]) ⟨Bo (p x),[],M++[[]],[]⟩) :
 Ev tb Qua [] [.lst e0 (eds xs) c,.fn F caps] M ⟨I (Qnh p 0 xs),[],M,[]⟩:=by
 have loop:∀ (m i:Nat),i+m=xs.length→wp tb (.loop Jd0) { T:=[(0,.lst e0 (eds xs) c),(1,.fn F caps),(7,I xs.length),(8,I i)],loc:=[],M:=M }
  (fun ex st=>(ex=.exit 0∧Qnh p i (xs.drop i)=-1∧st={ T:=[(0,.lst e0 (eds xs) c),(1,.fn F caps),(7,I xs.length),(8,I xs.length),(9,Bo false)],loc:=[],M:=M }) ∨
    ex=.ret∧st={ T:=[(4,I (Qnh p i (xs.drop i)))],loc:=[],M:=M }):=by
  intro m
  induction m with
  | zero =>
    intro i hi
    have h2:xs.drop i=[]:=List.drop_of_length_le (by omega)
    have h3:i=xs.length:=hi
    subst h3
    refine wW ?_
    repeat (first|apply wA|apply wS|refine wr (by simp;with_reducible rfl) ?_|refine wq (by simp;with_reducible rfl) ?_|refine wt (by simpa) ?_|refine wf (by simpa) ?_|refine xt (by simpa) ?_|refine xf (by simpa) ?_|apply wB|apply Qab|refine wX ?_|refine wY ?_|refine wR ?_|refine wK ?_|refine wE ?_)
    refine .inl ⟨rfl,by rw [h2];rfl,rfl⟩
  | succ m ih =>
    intro i hi
    have hi2:i < xs.length:=by omega
    have he2:e0=2:=by
     rcases he0 with h | h
     · exact h
     · rw [h] at hi2;cases hi2
    subst he2
    have h2:xs.drop i=xs[i]::xs.drop (i+1):=List.drop_eq_getElem_cons hi2
    have e1:=Qaa (hp _ (List.getElem_mem hi2))
    have w1:IntKind.i64.wrap ((i:Int)+1)=((i+1:Nat):Int):=Qbg (by omega)
    have gx:(eds xs)[i]'(by simpa using hi2)=[I xs[i].1,I xs[i].2]:=by simp [eds]
    rw [h2]
    cases hpx:p xs[i] with
    | true =>
      refine wW ?_
      repeat (first|apply wA|apply wS|refine wr (by simp [e1,hi2,w1,hpx,gx];with_reducible rfl) ?_|refine wq (by simp [e1,hi2,w1,hpx,gx];with_reducible rfl) ?_|refine wt (by simpa [e1,hi2,w1,hpx,gx]) ?_|refine wf (by simpa [e1,hi2,w1,hpx,gx]) ?_|refine xt (by simpa [e1,hi2,w1,hpx,gx]) ?_|refine xf (by simpa [e1,hi2,w1,hpx,gx]) ?_|apply wB|apply Qab|refine wX ?_|refine wY ?_|refine wR ?_|refine wK ?_|refine wE ?_)
      refine .inr ⟨rfl,by simp [Qnh,hpx]⟩
    | false =>
      refine wW ?_
      repeat (first|apply wA|apply wS|refine wr (by simp [e1,hi2,w1,hpx,gx];with_reducible rfl) ?_|refine wq (by simp [e1,hi2,w1,hpx,gx];with_reducible rfl) ?_|refine wt (by simpa [e1,hi2,w1,hpx,gx]) ?_|refine wf (by simpa [e1,hi2,w1,hpx,gx]) ?_|refine xt (by simpa [e1,hi2,w1,hpx,gx]) ?_|refine xf (by simpa [e1,hi2,w1,hpx,gx]) ?_|apply wB|apply Qab|refine wX ?_|refine wY ?_|refine wR ?_|refine wK ?_|refine wE ?_)
      have:=ih (i+1) (by omega)
      simp only [Qnh,hpx] at this ⊢
      exact this
 refine cW Jz7 rfl ?_
 repeat (first|apply wA|apply wS|refine wr (by simp;with_reducible rfl) ?_|refine wq (by simp;with_reducible rfl) ?_|refine wt (by simpa) ?_|refine wf (by simpa) ?_|refine xt (by simpa) ?_|refine xf (by simpa) ?_|apply wB|apply Qab|refine wX ?_|refine wY ?_|refine wR ?_|refine wK ?_|refine wE ?_)
 refine Qah (loop xs.length 0 (by simp)) ?_
 rintro ex st (⟨rfl,h,rfl⟩ | ⟨rfl,rfl⟩)
 · simp only [if_true]
   repeat (first|apply wA|apply wS|refine wr (by simp;with_reducible rfl) ?_|refine wq (by simp;with_reducible rfl) ?_|refine wt (by simpa) ?_|refine wf (by simpa) ?_|refine xt (by simpa) ?_|refine xf (by simpa) ?_|apply wB|apply Qab|refine wX ?_|refine wY ?_|refine wR ?_|refine wK ?_|refine wE ?_)
   simp at h
   simp [Qx9,h]
 · simp [Qx9]
end Go.Idl
namespace Go.Idl
open Go
def rgF (n i:Nat):List Int:=((List.range n).drop i).map fun v:Nat=>(v:Int)
theorem Qfe {n i:Nat} (h:i < n):rgF n i=(i:Int)::rgF n (i+1):=by
 rw [rgF,rgF,List.drop_eq_getElem_cons (by simpa using h)];simp
theorem Ql7 (n:Nat):rgF n n=[]:=by simp [rgF]
theorem Jf5 (n:Nat):rgF n 0=Qd1 n (-1):=by rw [rgF,Qc1,List.drop_zero]
end Go.Idl
