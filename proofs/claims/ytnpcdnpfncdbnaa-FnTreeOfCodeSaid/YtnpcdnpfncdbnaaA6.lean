/- Part 6 of a proof by an ideal interpreter of the code: its definitions and lemmas. Conditions: none. -/
import Derived.KernelRfl
import Derived.Test.YtnpcdnpfncdbnaaA5
set_option linter.all false
set_option linter.unusedVariables false
set_option linter.unusedSimpArgs false
namespace Go.Idl
open Go
abbrev U (n:Int):IV:=.sc (.int .u64 n)
def wU (n:Int):Int:=IntKind.u64.wrap n
def xorU (a b:Int):Int:=wU (BitVec.ofInt 64 a ^^^ BitVec.ofInt 64 b).toNat
def andU (a b:Int):Int:=wU (BitVec.ofInt 64 a &&& BitVec.ofInt 64 b).toNat
theorem b_xor (a b:Int):binOp .xor 0 (.int .u64 a) (.int .u64 b)=.pure (.int .u64 (xorU a b)):=rfl
theorem b_and (a b:Int):binOp .and 0 (.int .u64 a) (.int .u64 b)=.pure (.int .u64 (andU a b)):=rfl
theorem b_shl13 (a:Int):binOp .shl 0 (.int .u64 a) (.int .u64 13)=.pure (.int .u64 (wU (a * 2 ^ 13))):=rfl
theorem b_shl17 (a:Int):binOp .shl 0 (.int .u64 a) (.int .u64 17)=.pure (.int .u64 (wU (a * 2 ^ 17))):=rfl
theorem b_shr7 (a:Int):binOp .shr 0 (.int .u64 a) (.int .u64 7)=.pure (.int .u64 (a.fdiv (2 ^ 7))):=rfl
theorem wU_eq (n:Int):wU n=n % 18446744073709551616:=rfl
theorem andU_le {a b:Int} (h0:0≤b) (h1:b < 18446744073709551616):0≤andU a b∧andU a b≤b:=by
  have h2:(BitVec.ofInt 64 a &&& BitVec.ofInt 64 b).toNat≤(BitVec.ofInt 64 b).toNat:=by
    rw [BitVec.toNat_and];exact Nat.and_le_right
  have h3:(BitVec.ofInt 64 b).toNat=b.toNat:=by
    rw [BitVec.toNat_ofInt];congr 1;exact Int.emod_eq_of_lt h0 h1
  rw [h3] at h2
  rw [andU,wU_eq]
  generalize (BitVec.ofInt 64 a &&& BitVec.ofInt 64 b).toNat=z at *
  omega
theorem ev_Next (s:Int) (Ms Es:List Boxes):∃ s':Int,Ev tb zl106 [] [.bptr Ms.length 0 0] (Ms++[[U s]]::Es) ⟨U s',[],Ms++[[U s']]::Es,[]⟩:=by
  refine ⟨xorU (xorU (xorU s (wU (s * 2 ^ 13))) ((xorU s (wU (s * 2 ^ 13))).fdiv (2 ^ 7))) (wU (xorU (xorU s (wU (s * 2 ^ 13))) ((xorU s (wU (s * 2 ^ 13))).fdiv (2 ^ 7)) * 2 ^ 17)),?_⟩
  have x1:=b_xor s (wU (s * 2 ^ 13))
  have x0:=b_shl13 s
  generalize wU (s * 2 ^ 13)=a at *
  generalize xorU s a=b at *
  have y0:=b_shr7 b
  generalize b.fdiv (2 ^ 7)=c at *
  have y1:=b_xor b c
  generalize xorU b c=d at *
  have z0:=b_shl17 d
  generalize wU (d * 2 ^ 17)=e at *
  have z1:=b_xor d e
  generalize xorU d e=f at *
  refine call_of_wp zt106 rfl ?_
  repeat (first|refine wp_as ?_|refine wp_ss ?_|refine wr (by simp [x0,x1,y0,y1,z0,z1];with_reducible rfl) ?_|refine wq (by simp [x0,x1,y0,y1,z0,z1];with_reducible rfl) ?_|refine wt (by simpa [x0,x1,y0,y1,z0,z1]) ?_|refine wf (by simpa [x0,x1,y0,y1,z0,z1]) ?_|refine xt (by simpa [x0,x1,y0,y1,z0,z1]) ?_|refine xf (by simpa [x0,x1,y0,y1,z0,z1]) ?_|refine wp_bs ?_|refine wp_b ?_|refine wp_sr ?_|refine wp_sx ?_|refine wp_ret' ?_|refine wp_skip' ?_|refine wp_exit' ?_)
  simp [zi106]
theorem len_k (cf:CF) (n:Int) (m:Nat) (g:ByteArray) (b:UInt8) (k:Nat) (hw:IntKind.u8.wrap n=(m:Int)) (hb:g[m]? = some b) (hk:b.toNat=k) :
    ∃ st,execOps cf { T:=[(0,.sc (.int .u64 n)),(2,I 0),(14,Bo false)],loc:=[],M:=[] } [⟨some 19,none,.mv (.t 2)⟩,⟨some 20,none,.mv (.t 0)⟩,⟨some 21,none,.conv .u8 (.t 20)⟩,⟨some 22,none,.idxs (.c (.string g)) (.t 21)⟩,⟨some 23,none,.conv .i64 (.t 22)⟩,⟨some 24,none,.bin .add (.t 19) (.t 23)⟩,⟨some 2,none,.asg (.t 24)⟩]=some st∧st.cut [2]={ T:=[(2,I k)],loc:=[],M:=[] }:=by
  subst hk
  have hbl:b.toNat < 256:=b.toNat_lt
  have w1:IntKind.i64.wrap (b.toNat:Int)=(b.toNat:Int):=wrap64 (by omega) (by omega)
  refine ⟨_,by simp [hw,hb];rfl,by simp [w1]⟩
def lenB (n:Nat):Nat:=if n≤0 then 0 else if n≤1 then 1 else if n≤3 then 2 else if n≤7 then 3 else if n≤15 then 4 else 5
set_option maxRecDepth 100000 in
set_option maxHeartbeats 4000000 in
theorem ev_Len64k (n:Nat) (hn:n≤21):Ev tb zl68 [] [.sc (.int .u64 n)] [] ⟨I (lenB n),[],[],[]⟩:=by
  have cs:n=0 ∨ n=1 ∨ n=2 ∨ n=3 ∨ n=4 ∨ n=5 ∨ n=6 ∨ n=7 ∨ n=8 ∨ n=9 ∨ n=10 ∨ n=11 ∨ n=12 ∨ n=13 ∨ n=14 ∨ n=15 ∨ n=16 ∨ n=17 ∨ n=18 ∨ n=19 ∨ n=20 ∨ n=21:=by omega
  have w8:IntKind.u8.wrap (n:Int)=(n:Int):=by
    rcases cs with rfl | rfl | rfl | rfl | rfl | rfl | rfl | rfl | rfl | rfl | rfl | rfl | rfl | rfl | rfl | rfl | rfl | rfl | rfl | rfl | rfl | rfl <;> rfl
  have key:∃ st,execOps (limF tb) { T:=[(0,.sc (.int .u64 n)),(2,I 0),(14,Bo false)],loc:=[],M:=[] } (match z68r10 with | .reg ops _ _=>ops | _=>[])=some st∧st.cut [2]={ T:=[(2,I (lenB n))],loc:=[],M:=[] }:=by
    rcases cs with rfl | rfl | rfl | rfl | rfl | rfl | rfl | rfl | rfl | rfl | rfl | rfl | rfl | rfl | rfl | rfl | rfl | rfl | rfl | rfl | rfl | rfl
    all_goals
      exact len_k (limF tb) _ _ _ _ _ w8 rfl rfl
  obtain ⟨st,h1,h2⟩:=key
  have g1:¬ (4294967296:Int)≤n:=by omega
  have g2:¬ (65536:Int)≤n:=by omega
  have g3:¬ (256:Int)≤n:=by omega
  refine call_of_wp zt68 rfl ?_
  iterate 4 ((first|refine wp_as ?_|skip);refine wp_rs (by simp [g1,g2,g3];rfl) (by simp;rfl) ?_;(first|refine wp_ct (t:=false) (by simp) (by simp) (fun _=>?_)|skip);(first|refine wp_ss ?_|skip))
  refine wp_rs h1 h2 ?_
  refine wp_ret' ?_
  simp [zi68]
theorem ev_Lenk (n:Nat) (hn:n≤21):Ev tb zl66 [] [.sc (.int .u64 n)] [] ⟨I (lenB n),[],[],[]⟩:=by
  have e1:=ev_lim (ev_Len64k n hn)
  refine call_of_wp zt66 rfl ?_
  repeat (first|refine wp_as ?_|refine wp_ss ?_|refine wr (by simp [e1];with_reducible rfl) ?_|refine wq (by simp [e1];with_reducible rfl) ?_|refine wt (by simpa [e1]) ?_|refine wf (by simpa [e1]) ?_|refine xt (by simpa [e1]) ?_|refine xf (by simpa [e1]) ?_|refine wp_bs ?_|refine wp_b ?_|refine wp_sr ?_|refine wp_sx ?_|refine wp_ret' ?_|refine wp_skip' ?_|refine wp_exit' ?_)
  simp [zi66]
def npo (n:Nat):Int:=if n≤15 then 16 else 32
theorem ev_npo (n:Nat) (h1:13≤n) (h2:n≤21):Ev tb zl91 [] [I n] [] ⟨U (npo n),[],[],[]⟩:=by
  have e1:=ev_lim (ev_Lenk n h2)
  have w1:=@wrapU n (by omega)
  by_cases h:n≤15
  · rw [show lenB n=4 by rw [lenB,if_neg (by omega),if_neg (by omega),if_neg (by omega),if_neg (by omega),if_pos h],show ((4:Nat):Int)=4 from rfl] at e1
    have s1:binOp .shl 0 (.int .u64 1) (.int .i64 4)=.pure (.int .u64 16):=rfl
    rw [npo,if_pos h]
    refine call_of_wp zt91 rfl ?_
    repeat (first|refine wp_as ?_|refine wp_ss ?_|refine wr (by simp [e1,w1,s1];with_reducible rfl) ?_|refine wq (by simp [e1,w1,s1];with_reducible rfl) ?_|refine wt (by simpa [e1,w1,s1]) ?_|refine wf (by simpa [e1,w1,s1]) ?_|refine xt (by simpa [e1,w1,s1]) ?_|refine xf (by simpa [e1,w1,s1]) ?_|refine wp_bs ?_|refine wp_b ?_|refine wp_sr ?_|refine wp_sx ?_|refine wp_ret' ?_|refine wp_skip' ?_|refine wp_exit' ?_)
    simp [zi91]
    try rfl
  · rw [show lenB n=5 by rw [lenB,if_neg (by omega),if_neg (by omega),if_neg (by omega),if_neg (by omega),if_neg h],show ((5:Nat):Int)=5 from rfl] at e1
    have s1:binOp .shl 0 (.int .u64 1) (.int .i64 5)=.pure (.int .u64 32):=rfl
    rw [npo,if_neg h]
    refine call_of_wp zt91 rfl ?_
    repeat (first|refine wp_as ?_|refine wp_ss ?_|refine wr (by simp [e1,w1,s1];with_reducible rfl) ?_|refine wq (by simp [e1,w1,s1];with_reducible rfl) ?_|refine wt (by simpa [e1,w1,s1]) ?_|refine wf (by simpa [e1,w1,s1]) ?_|refine xt (by simpa [e1,w1,s1]) ?_|refine xf (by simpa [e1,w1,s1]) ?_|refine wp_bs ?_|refine wp_b ?_|refine wp_sr ?_|refine wp_sx ?_|refine wp_ret' ?_|refine wp_skip' ?_|refine wp_exit' ?_)
    simp [zi91]
    try rfl
set_option maxHeartbeats 1000000 in
theorem bp_loop (X0:List (Int×Int)) (hX0:X0.length≤1000000) (a n q:Nat) (hq:q=n / 4) (h13:13≤n) (h21:n≤21) (hab:a+n≤X0.length) (M:List Boxes):∀ (m:Nat) (X:List (Int×Int)) (k:Nat) (s:Int),k+m=a+q * 2+2→a≤k→Seg X0 X a (a+n) →
    wp tb (.loop z274l11) { T:=[(0,O2 X),(1,I a),(8,I n),(9,.bptr M.length 0 0),(10,U (npo n)),(11,I k)],loc:=[[U s]],M:=M }
      (fun ex st=>ex=.exit 0∧∃ (X':List (Int×Int)) (s':Int) (k':Nat),Seg X0 X' a (a+n)∧st={ T:=[(0,O2 X'),(1,I a),(8,I n),(9,.bptr M.length 0 0),(10,U (npo n)),(11,I k'),(35,Bo false)],loc:=[[U s']],M:=M }):=by
  have t1:(n:Int).tdiv 4=(q:Int):=by rw [Int.tdiv_eq_ediv_of_nonneg (by omega)];omega
  have w1:IntKind.i64.wrap (q:Int)=(q:Int):=wrap64 (by omega) (by omega)
  have w2:IntKind.i64.wrap ((q:Int) * 2)=(q:Int) * 2:=wrap64 (by omega) (by omega)
  have w3:IntKind.i64.wrap ((a:Int)+q * 2)=(a:Int)+q * 2:=wrap64 (by omega) (by omega)
  have w4:IntKind.i64.wrap ((a:Int)+q * 2+1)=(a:Int)+q * 2+1:=wrap64 (by omega) (by omega)
  intro m
  induction m with
  | zero =>
    intro X k s hk ha hS
    have g1:¬ (k:Int)≤(a:Int)+q * 2+1:=by omega
    refine wp_loop ?_
    repeat (first|refine wp_as ?_|refine wp_ss ?_|refine wr (by simp [t1,w1,w2,w3,w4,g1];with_reducible rfl) ?_|refine wq (by simp [t1,w1,w2,w3,w4,g1];with_reducible rfl) ?_|refine wt (by simpa [t1,w1,w2,w3,w4,g1]) ?_|refine wf (by simpa [t1,w1,w2,w3,w4,g1]) ?_|refine xt (by simpa [t1,w1,w2,w3,w4,g1]) ?_|refine xf (by simpa [t1,w1,w2,w3,w4,g1]) ?_|refine wp_bs ?_|refine wp_b ?_|refine wp_sr ?_|refine wp_sx ?_|refine wp_ret' ?_|refine wp_skip' ?_|refine wp_exit' ?_)
    exact ⟨rfl,X,s,k,hS,rfl⟩
  | succ m ih =>
    intro X k s hk ha hS
    have hXl:=hS.len
    have g1:(k:Int)≤(a:Int)+q * 2+1:=by omega
    have hkl:k < X.length:=by omega
    obtain ⟨s',hs'⟩:=ev_Next s M []
    have e1:=ev_lim hs'
    have hnp:npo n=16∧n≤15 ∨ npo n=32∧16≤n:=by
      rw [npo];split <;> omega
    have wU1:IntKind.u64.wrap (npo n - 1)=npo n - 1:=by
      rcases hnp with ⟨h,_⟩ | ⟨h,_⟩ <;> rw [h] <;> rfl
    have hand:=andU_le (a:=s') (b:=npo n - 1) (by omega) (by omega)
    have a1:=b_and s' (npo n - 1)
    generalize andU s' (npo n - 1)=o at *
    obtain ⟨o,rfl⟩:=Int.eq_ofNat_of_zero_le hand.1
    have w5:IntKind.i64.wrap (o:Int)=(o:Int):=wrap64 (by omega) (by omega)
    have w6:IntKind.i64.wrap ((k:Int)+1)=((k+1:Nat):Int):=wrapS (by omega)
    by_cases ho:(n:Int)≤o
    · have ho':n≤o:=by omega
      obtain ⟨p,hp⟩:∃ p,p=o - n:=⟨_,rfl⟩
      have w7:IntKind.i64.wrap ((o:Int) - n)=(p:Int):=by rw [wrap64 (by omega) (by omega)];omega
      have w8:IntKind.i64.wrap ((a:Int)+p)=(a:Int)+p:=wrap64 (by omega) (by omega)
      have hno:natOf (I ((a:Int)+p))=some (a+p):=natOf_nat (n:=a+p)
      have hpl:a+p < X.length:=by omega
      have hS2:=hS.trans (swapL_seg X k (a+p) a (a+n) hkl hpl (by omega) (by omega))
      have hn:=ih (swapL X k (a+p) hkl hpl) (k+1) s' (by omega) (by omega) hS2
      refine wp_loop ?_
      repeat (first|refine wp_as ?_|refine wp_ss ?_|refine wr (by simp [t1,w1,w2,w3,w4,g1,e1,wU1,a1,w5,ho,ho',w7,w8,hno,hkl,hpl,w6];with_reducible rfl) ?_|refine wq (by simp [t1,w1,w2,w3,w4,g1,e1,wU1,a1,w5,ho,ho',w7,w8,hno,hkl,hpl,w6];with_reducible rfl) ?_|refine wt (by simpa [t1,w1,w2,w3,w4,g1,e1,wU1,a1,w5,ho,ho',w7,w8,hno,hkl,hpl,w6]) ?_|refine wf (by simpa [t1,w1,w2,w3,w4,g1,e1,wU1,a1,w5,ho,ho',w7,w8,hno,hkl,hpl,w6]) ?_|refine xt (by simpa [t1,w1,w2,w3,w4,g1,e1,wU1,a1,w5,ho,ho',w7,w8,hno,hkl,hpl,w6]) ?_|refine xf (by simpa [t1,w1,w2,w3,w4,g1,e1,wU1,a1,w5,ho,ho',w7,w8,hno,hkl,hpl,w6]) ?_|refine wp_bs ?_|refine wp_b ?_|refine wp_sr ?_|refine wp_sx ?_|refine wp_ret' ?_|refine wp_skip' ?_|refine wp_exit' ?_)
      exact hn
    · have ho':¬ n≤o:=by omega
      have w8:IntKind.i64.wrap ((a:Int)+o)=(a:Int)+o:=wrap64 (by omega) (by omega)
      have hno:natOf (I ((a:Int)+o))=some (a+o):=natOf_nat (n:=a+o)
      have hpl:a+o < X.length:=by omega
      have hS2:=hS.trans (swapL_seg X k (a+o) a (a+n) hkl hpl (by omega) (by omega))
      have hn:=ih (swapL X k (a+o) hkl hpl) (k+1) s' (by omega) (by omega) hS2
      refine wp_loop ?_
      repeat (first|refine wp_as ?_|refine wp_ss ?_|refine wr (by simp [t1,w1,w2,w3,w4,g1,e1,wU1,a1,w5,ho,ho',w8,hno,hkl,hpl,w6];with_reducible rfl) ?_|refine wq (by simp [t1,w1,w2,w3,w4,g1,e1,wU1,a1,w5,ho,ho',w8,hno,hkl,hpl,w6];with_reducible rfl) ?_|refine wt (by simpa [t1,w1,w2,w3,w4,g1,e1,wU1,a1,w5,ho,ho',w8,hno,hkl,hpl,w6]) ?_|refine wf (by simpa [t1,w1,w2,w3,w4,g1,e1,wU1,a1,w5,ho,ho',w8,hno,hkl,hpl,w6]) ?_|refine xt (by simpa [t1,w1,w2,w3,w4,g1,e1,wU1,a1,w5,ho,ho',w8,hno,hkl,hpl,w6]) ?_|refine xf (by simpa [t1,w1,w2,w3,w4,g1,e1,wU1,a1,w5,ho,ho',w8,hno,hkl,hpl,w6]) ?_|refine wp_bs ?_|refine wp_b ?_|refine wp_sr ?_|refine wp_sx ?_|refine wp_ret' ?_|refine wp_skip' ?_|refine wp_exit' ?_)
      exact hn
set_option maxHeartbeats 1000000 in
theorem ev_breakPatterns (X:List (Int×Int)) (hl:X.length≤1000000) (a n:Nat) (h13:13≤n) (h21:n≤21) (hab:a+n≤X.length) (M:List Boxes) :
    ∃ X':List (Int×Int),Seg X X' a (a+n)∧Ev tb zl274 [0] [O2 X,I a,I ((a:Int)+n),fcE] M ⟨.tup [],[O2 X'],M,[]⟩:=by
  obtain ⟨q,hq⟩:∃ q,q=n / 4:=⟨_,rfl⟩
  have t1:(n:Int).tdiv 4=(q:Int):=by rw [Int.tdiv_eq_ediv_of_nonneg (by omega)];omega
  have w00:(a:Int)+n - a=n:=by omega
  have w0:IntKind.i64.wrap (n:Int)=(n:Int):=wrap64 (by omega) (by omega)
  have w1:IntKind.i64.wrap (q:Int)=(q:Int):=wrap64 (by omega) (by omega)
  have w2:IntKind.i64.wrap ((q:Int) * 2)=(q:Int) * 2:=wrap64 (by omega) (by omega)
  have w3:IntKind.i64.wrap ((a:Int)+q * 2)=(a:Int)+q * 2:=wrap64 (by omega) (by omega)
  have w4:IntKind.i64.wrap ((a:Int)+q * 2 - 1)=((a+q * 2 - 1:Nat):Int):=by rw [wrap64 (by omega) (by omega)];omega
  have wu:=@wrapU n (by omega)
  have g1:(8:Int)≤n:=by omega
  have g1':8≤n:=by omega
  have e1:=ev_lim (ev_npo n h13 h21)
  have hlo:=bp_loop X hl a n q hq h13 h21 hab M 3 X (a+q * 2 - 1) n (by omega) (by omega) (Seg.refl X a (a+n))
  generalize a+q * 2 - 1=k0 at *
  suffices hh:∃ r,(∃ X':List (Int×Int),Seg X X' a (a+n)∧r=⟨.tup [],[O2 X'],M,[]⟩)∧Ev tb zl274 [0] [O2 X,I a,I ((a:Int)+n),fcE] M r by
    obtain ⟨r,⟨X',q1,rfl⟩,q2⟩:=hh
    exact ⟨X',q1,q2⟩
  refine call_ex zt274 rfl ?_
  repeat (first|refine wp_as ?_|refine wp_ss ?_|refine wr (by simp [t1,w00,w0,w1,w2,w3,w4,wu,g1,g1',e1];with_reducible rfl) ?_|refine wq (by simp [t1,w00,w0,w1,w2,w3,w4,wu,g1,g1',e1];with_reducible rfl) ?_|refine wt (by simpa [t1,w00,w0,w1,w2,w3,w4,wu,g1,g1',e1]) ?_|refine wf (by simpa [t1,w00,w0,w1,w2,w3,w4,wu,g1,g1',e1]) ?_|refine xt (by simpa [t1,w00,w0,w1,w2,w3,w4,wu,g1,g1',e1]) ?_|refine xf (by simpa [t1,w00,w0,w1,w2,w3,w4,wu,g1,g1',e1]) ?_|refine wp_bs ?_|refine wp_b ?_|refine wp_sr ?_|refine wp_sx ?_|refine wp_ret' ?_|refine wp_skip' ?_|refine wp_exit' ?_)
  refine wp_imp hlo ?_
  rintro ex st ⟨rfl,X',s',k',hS,rfl⟩
  try simp only [if_true]
  repeat (first|refine wp_as ?_|refine wp_ss ?_|refine wr (by simp;with_reducible rfl) ?_|refine wq (by simp;with_reducible rfl) ?_|refine wt (by simpa) ?_|refine wf (by simpa) ?_|refine xt (by simpa) ?_|refine xf (by simpa) ?_|refine wp_bs ?_|refine wp_b ?_|refine wp_sr ?_|refine wp_sx ?_|refine wp_ret' ?_|refine wp_skip' ?_|refine wp_exit' ?_)
  refine ⟨by simp,_,⟨X',hS,rfl⟩,?_⟩
  simp [zi274]
theorem pi_loop (X:List (Int×Int)) (hX:∀ x ∈ X,DE x) (hl:X.length≤1000000) (a b:Nat) (hab:a < b) (hb:b≤X.length) (M:List Boxes):∀ (m i:Nat) (f:Bool),i+m=b→a < i →
    wp tb (.loop z282l6) { T:=[(0,O2 X),(1,I a),(2,I b),(3,fcE),(9,I i),(10,I 0)]++(if f then [(16,Bo true)] else []),loc:=[],M:=M }
      (fun ex st=>ex=.exit 2∧∃ i':Nat,(i≤i'∧i'≤b∧(∀ k,i≤k→k < i'→∀ h1 h2,below (X[k]'h1) (X[k - 1]'h2)=false))∧st={ T:=[(0,O2 X),(1,I a),(2,I b),(3,fcE),(9,I i'),(10,I 0),(36,Bo false)],loc:=[],M:=M }):=by
  intro m
  induction m with
  | zero =>
    intro i f hi ha
    have g1:¬ i < b:=by omega
    have g1':¬ (i:Int) < b:=by omega
    cases f
    all_goals
      simp only [if_true,if_false,Bool.false_eq_true,List.append_nil,List.cons_append,List.nil_append]
      refine wp_loop ?_
      repeat (first|refine wp_as ?_|refine wp_ss ?_|refine wr (by simp [g1,g1'];with_reducible rfl) ?_|refine wq (by simp [g1,g1'];with_reducible rfl) ?_|refine wt (by simpa [g1,g1']) ?_|refine wf (by simpa [g1,g1']) ?_|refine xt (by simpa [g1,g1']) ?_|refine xf (by simpa [g1,g1']) ?_|refine wp_bs ?_|refine wp_b ?_|refine wp_sr ?_|refine wp_sx ?_|refine wp_ret' ?_|refine wp_skip' ?_|refine wp_exit' ?_)
      exact ⟨rfl,i,⟨Nat.le_refl _,by omega,fun k k1 k2=>by omega⟩,rfl⟩
  | succ m ih =>
    intro i f hi ha
    obtain ⟨p,rfl⟩:∃ p,i=p+1:=⟨i - 1,by omega⟩
    have hil:p+1 < X.length:=by omega
    have hpl:p < X.length:=by omega
    have g1:p+1 < b:=by omega
    have g1':(p:Int)+1 < b:=by omega
    have w1:IntKind.i64.wrap (p:Int)=(p:Int):=wrap64 (by omega) (by omega)
    have w2:IntKind.i64.wrap ((p:Int)+1+1)=((p+1+1:Nat):Int):=by rw [wrap64 (by omega) (by omega)];omega
    have hbl:=cmpE_below X[p+1] X[p]
    have e1:=fun M=>ev_lim (ev_cmpE (hX _ (List.getElem_mem hil)) (hX _ (List.getElem_mem hpl)) M)
    cases f
    all_goals
      simp only [if_true,if_false,Bool.false_eq_true,List.append_nil,List.cons_append,List.nil_append]
      by_cases hc:cmpE X[p+1] X[p] < 0
      · refine wp_loop ?_
        repeat (first|refine wp_as ?_|refine wp_ss ?_|refine wr (by simp [g1,g1',hil,hpl,w1,e1,hc,w2];with_reducible rfl) ?_|refine wq (by simp [g1,g1',hil,hpl,w1,e1,hc,w2];with_reducible rfl) ?_|refine wt (by simpa [g1,g1',hil,hpl,w1,e1,hc,w2]) ?_|refine wf (by simpa [g1,g1',hil,hpl,w1,e1,hc,w2]) ?_|refine xt (by simpa [g1,g1',hil,hpl,w1,e1,hc,w2]) ?_|refine xf (by simpa [g1,g1',hil,hpl,w1,e1,hc,w2]) ?_|refine wp_bs ?_|refine wp_b ?_|refine wp_sr ?_|refine wp_sx ?_|refine wp_ret' ?_|refine wp_skip' ?_|refine wp_exit' ?_)
        exact ⟨rfl,p+1,⟨Nat.le_refl _,by omega,fun k k1 k2=>by omega⟩,rfl⟩
      · have hbt:below X[p+1] X[p]=false:=by rw [← hbl];exact decide_eq_false hc
        refine wp_loop ?_
        repeat (first|refine wp_as ?_|refine wp_ss ?_|refine wr (by simp [g1,g1',hil,hpl,w1,e1,hc,w2];with_reducible rfl) ?_|refine wq (by simp [g1,g1',hil,hpl,w1,e1,hc,w2];with_reducible rfl) ?_|refine wt (by simpa [g1,g1',hil,hpl,w1,e1,hc,w2]) ?_|refine wf (by simpa [g1,g1',hil,hpl,w1,e1,hc,w2]) ?_|refine xt (by simpa [g1,g1',hil,hpl,w1,e1,hc,w2]) ?_|refine xf (by simpa [g1,g1',hil,hpl,w1,e1,hc,w2]) ?_|refine wp_bs ?_|refine wp_b ?_|refine wp_sr ?_|refine wp_sx ?_|refine wp_ret' ?_|refine wp_skip' ?_|refine wp_exit' ?_)
        refine wp_imp (by simpa using ih (p+1+1) false (by omega) (by omega)) ?_
        rintro ex st ⟨rfl,i',⟨k1,k2,k3⟩,rfl⟩
        refine ⟨rfl,i',⟨by omega,k2,fun k q1 q2 h1 h2=>?_⟩,rfl⟩
        by_cases hk:k=p+1
        · subst hk;exact hbt
        · exact k3 k (by omega) q2 h1 h2
theorem ev_partialIns (X:List (Int×Int)) (hX:∀ x ∈ X,DE x) (hl:X.length≤1000000) (a n:Nat) (h1:1≤n) (h49:n≤49) (hab:a+n≤X.length) (M:List Boxes) :
    ∃ t:Bool,(t=true→∀ k,a < k→k < a+n→∀ h1 h2,below (X[k]'h1) (X[k - 1]'h2)=false)∧Ev tb zl282 [0] [O2 X,I a,I ((a:Int)+n),fcE] M ⟨Bo t,[O2 X],M,[]⟩:=by
  have w00:(a:Int)+n - a=n:=by omega
  have w0:IntKind.i64.wrap (n:Int)=(n:Int):=wrap64 (by omega) (by omega)
  have w1:IntKind.i64.wrap ((a:Int)+1)=((a+1:Nat):Int):=wrapS (by omega)
  have g1:(n:Int) < 50:=by omega
  have g1':n < 50:=by omega
  suffices hh:∃ r,(∃ t:Bool,(t=true→∀ k,a < k→k < a+n→∀ h1 h2,below (X[k]'h1) (X[k - 1]'h2)=false)∧r=⟨Bo t,[O2 X],M,[]⟩)∧Ev tb zl282 [0] [O2 X,I a,I ((a:Int)+n),fcE] M r by
    obtain ⟨r,⟨t,q1,rfl⟩,q2⟩:=hh
    exact ⟨t,q1,q2⟩
  have hlo:=pi_loop X hX hl a (a+n) (by omega) hab M (n - 1) (a+1) true (by omega) (by omega)
  rw [show ((a+n:Nat):Int)=(a:Int)+n by omega] at hlo
  refine call_ex zt282 rfl ?_
  repeat (first|refine wp_as ?_|refine wp_ss ?_|refine wr (by simp [w1];with_reducible rfl) ?_|refine wq (by simp [w1];with_reducible rfl) ?_|refine wt (by simpa [w1]) ?_|refine wf (by simpa [w1]) ?_|refine xt (by simpa [w1]) ?_|refine xf (by simpa [w1]) ?_|refine wp_bs ?_|refine wp_b ?_|refine wp_sr ?_|refine wp_sx ?_|refine wp_ret' ?_|refine wp_skip' ?_|refine wp_exit' ?_)
  refine wp_loop ?_
  repeat (first|refine wp_as ?_|refine wp_ss ?_|refine wr (by simp;with_reducible rfl) ?_|refine wq (by simp;with_reducible rfl) ?_|refine wt (by simpa) ?_|refine wf (by simpa) ?_|refine xt (by simpa) ?_|refine xf (by simpa) ?_|refine wp_bs ?_|refine wp_b ?_|refine wp_sr ?_|refine wp_sx ?_|refine wp_ret' ?_|refine wp_skip' ?_|refine wp_exit' ?_)
  refine wp_imp hlo ?_
  rintro ex st ⟨rfl,i',⟨k1,k2,k3⟩,rfl⟩
  try simp only [if_true]
  by_cases hi:i'=a+n
  · have g2:((i':Nat):Int)=(a:Int)+n:=by omega
    repeat (first|refine wp_as ?_|refine wp_ss ?_|refine wr (by simp [g2];with_reducible rfl) ?_|refine wq (by simp [g2];with_reducible rfl) ?_|refine wt (by simpa [g2]) ?_|refine wf (by simpa [g2]) ?_|refine xt (by simpa [g2]) ?_|refine xf (by simpa [g2]) ?_|refine wp_bs ?_|refine wp_b ?_|refine wp_sr ?_|refine wp_sx ?_|refine wp_ret' ?_|refine wp_skip' ?_|refine wp_exit' ?_)
    refine ⟨.inr rfl,_,⟨true,fun _ k q1 q2=>k3 k (by omega) (by omega),rfl⟩,?_⟩
    simp [zi282]
  · have g2:¬ ((i':Nat):Int)=(a:Int)+n:=by omega
    repeat (first|refine wp_as ?_|refine wp_ss ?_|refine wr (by simp [g2,w00,w0,g1,g1'];with_reducible rfl) ?_|refine wq (by simp [g2,w00,w0,g1,g1'];with_reducible rfl) ?_|refine wt (by simpa [g2,w00,w0,g1,g1']) ?_|refine wf (by simpa [g2,w00,w0,g1,g1']) ?_|refine xt (by simpa [g2,w00,w0,g1,g1']) ?_|refine xf (by simpa [g2,w00,w0,g1,g1']) ?_|refine wp_bs ?_|refine wp_b ?_|refine wp_sr ?_|refine wp_sx ?_|refine wp_ret' ?_|refine wp_skip' ?_|refine wp_exit' ?_)
    refine ⟨.inr rfl,_,⟨false,(fun h=>nomatch h),rfl⟩,?_⟩
    simp [zi282]
end Go.Idl
namespace Go.Idl
open Go
def nl2:List (Int×Int)→IV
  | []=>Z
  | e::es=>O2 (e::es)
@[simp] theorem nl2_nil:nl2 []=Z:=rfl
@[simp] theorem nl2_cons (e:Int×Int) (es:List (Int×Int)):nl2 (e::es)=O2 (e::es):=rfl
theorem nl2_app (acc:List (Int×Int)) (e:Int×Int):nl2 (acc++[e])=O2 (acc++[e]):=by
  cases acc <;> rfl
theorem ev_edge (a b:Int) (M:List Boxes):Ev tb zl36 [] [I a,I b] M ⟨.agg [I (min a b),I (max a b)],[],M,[]⟩:=by
  have h1:(if b < a then b else a)=min a b:=min_if a b
  have h2:(if a < b then b else a)=max a b:=max_if a b
  refine call_of_wp zt36 rfl ?_
  repeat (first|refine wp_as ?_|refine wp_ss ?_|refine wr (by simp;with_reducible rfl) ?_|refine wq (by simp;with_reducible rfl) ?_|refine wt (by simpa) ?_|refine wf (by simpa) ?_|refine xt (by simpa) ?_|refine xf (by simpa) ?_|refine wp_bs ?_|refine wp_b ?_|refine wp_sr ?_|refine wp_sx ?_|refine wp_ret' ?_|refine wp_skip' ?_|refine wp_exit' ?_)
  simp [zi36,h1,h2]
end Go.Idl
namespace Go.Idl
open Go
theorem ev_Clip2 (xs:List (Int×Int)):Ev tb zl258 [] [O2 xs] [] ⟨O2 xs,[],[],[]⟩:=by
  refine call_of_wp zt258 rfl ?_
  repeat (first|refine wp_as ?_|refine wp_ss ?_|refine wr (by simp;with_reducible rfl) ?_|refine wq (by simp;with_reducible rfl) ?_|refine wt (by simpa) ?_|refine wf (by simpa) ?_|refine xt (by simpa) ?_|refine xf (by simpa) ?_|refine wp_bs ?_|refine wp_b ?_|refine wp_sr ?_|refine wp_sx ?_|refine wp_ret' ?_|refine wp_skip' ?_|refine wp_exit' ?_)
  simp [zi258]
end Go.Idl
namespace Go.Idl
open Go
theorem ev_Graph_degrees (n:Nat) (es:List (Int×Int)) (c:Bool) (hn:n≤1000) (hl:es.length≤1000) (he:EdgesIn n es) :
    Ev tb zl9 [] [Gr n es c] [] ⟨O (degs n es),[],[],[]⟩:=by
  have loop:∀ (m i:Nat) (out:List Int) (bs:Boxes),i+m=es.length→out.length=n→(∀ x ∈ out,0≤x∧x≤2 * i) →
      wp tb (.loop z9l8) { T:=[(1,.bptr 0 0 0),(3,O out),(10,L2 es c),(11,I es.length),(12,I i)],loc:=[I n,L2 es c]::bs,M:=[] }
      (fun ex st=>ex=.exit 0∧∃ bs',st={ T:=[(1,.bptr 0 0 0),(3,O (dfold out (es.drop i))),(10,L2 es c),(11,I es.length),(12,I es.length),(13,Bo false)],loc:=[I n,L2 es c]::bs',M:=[] }):=by
    intro m
    induction m with
    | zero =>
      intro i out bs hi ho hb
      have h3:i=es.length:=hi
      subst h3
      refine wp_loop ?_
      repeat (first|refine wp_as ?_|refine wp_ss ?_|refine wr (by simp;with_reducible rfl) ?_|refine wq (by simp;with_reducible rfl) ?_|refine wt (by simpa) ?_|refine wf (by simpa) ?_|refine xt (by simpa) ?_|refine xf (by simpa) ?_|refine wp_bs ?_|refine wp_b ?_|refine wp_sr ?_|refine wp_sx ?_|refine wp_ret' ?_|refine wp_skip' ?_|refine wp_exit' ?_)
      exact ⟨rfl,bs,by simp [dfold]⟩
    | succ m ih =>
      intro i out bs hi ho hb
      have hi2:i < es.length:=by omega
      have w1:IntKind.i64.wrap ((i:Int)+1)=((i+1:Nat):Int):=wrapS (by omega)
      have hd:es.drop i=es[i]::es.drop (i+1):=List.drop_eq_getElem_cons hi2
      have hei:=he es[i] (List.getElem_mem hi2)
      obtain ⟨p,q,hpq,hp,hq⟩:∃ p q:Nat,es[i]=((p:Int),(q:Int))∧p < n∧q < n:=⟨es[i].1.toNat,es[i].2.toNat,by ext <;> simp <;> omega,by omega,by omega⟩
      rw [hd,hpq]
      have hpo:p < out.length:=by omega
      have hx:=hb out[p] (List.getElem_mem hpo)
      have w2:IntKind.i64.wrap (out[p]+1)=out[p]+1:=wrap64 (by omega) (by omega)
      have e1:=bump_eq hpo
      have b1:=bump_bound (i:=p) hb (by omega)
      have l1:=bump_len out p
      have hstep:dfold out (((p:Int),(q:Int))::es.drop (i+1))=dfold (bump (bump out p) q) (es.drop (i+1)):=rfl
      rw [hstep]
      refine wp_loop ?_
      repeat (first|refine wp_as ?_|refine wp_ss ?_|refine wr (by simp [hi2,hpq];with_reducible rfl) ?_|refine wq (by simp [hi2,hpq];with_reducible rfl) ?_|refine wt (by simpa [hi2,hpq]) ?_|refine wf (by simpa [hi2,hpq]) ?_|refine xt (by simpa [hi2,hpq]) ?_|refine xf (by simpa [hi2,hpq]) ?_|refine wp_bs ?_|refine wp_b ?_|refine wp_sr ?_|refine wp_sx ?_|refine wp_ret' ?_|refine wp_skip' ?_|refine wp_exit' ?_)
      refine wr (by simp [hi2,hpq,hpo,w2,← e1];with_reducible rfl) ?_
      generalize bump out p=out1 at *
      have hqo:q < out1.length:=by omega
      have hx2:=b1 out1[q] (List.getElem_mem hqo)
      have w3:IntKind.i64.wrap (out1[q]+1)=out1[q]+1:=wrap64 (by omega) (by omega)
      have e2:=bump_eq hqo
      have b2:=bump_bound (i:=q) b1 (by omega)
      have l2:=bump_len out1 q
      refine wq (by simp [hi2,hpq,hqo,w3,← e2];with_reducible rfl) ?_
      repeat (first|refine wp_as ?_|refine wp_ss ?_|refine wr (by simp [w1];with_reducible rfl) ?_|refine wq (by simp [w1];with_reducible rfl) ?_|refine wt (by simpa [w1]) ?_|refine wf (by simpa [w1]) ?_|refine xt (by simpa [w1]) ?_|refine xf (by simpa [w1]) ?_|refine wp_bs ?_|refine wp_b ?_|refine wp_sr ?_|refine wp_sx ?_|refine wp_ret' ?_|refine wp_skip' ?_|refine wp_exit' ?_)
      exact ih (i+1) (bump out1 q) _ (by omega) (by omega) (fun x hx=>by have:=b2 x hx;omega)
  refine call_of_wp zt9 rfl ?_
  repeat (first|refine wp_as ?_|refine wp_ss ?_|refine wr (by simp [show n≤274877906944 by omega];with_reducible rfl) ?_|refine wq (by simp [show n≤274877906944 by omega];with_reducible rfl) ?_|refine wt (by simpa [show n≤274877906944 by omega]) ?_|refine wf (by simpa [show n≤274877906944 by omega]) ?_|refine xt (by simpa [show n≤274877906944 by omega]) ?_|refine xf (by simpa [show n≤274877906944 by omega]) ?_|refine wp_bs ?_|refine wp_b ?_|refine wp_sr ?_|refine wp_sx ?_|refine wp_ret' ?_|refine wp_skip' ?_|refine wp_exit' ?_)
  have:=loop es.length 0 (List.replicate n 0) [] (by simp) (by simp) (by intro x hx;have:=List.eq_of_mem_replicate hx;subst this;simp)
  simp at this
  refine wp_imp this ?_
  rintro ex st ⟨rfl,bs,rfl⟩
  try simp only [if_true]
  repeat (first|refine wp_as ?_|refine wp_ss ?_|refine wr (by simp;with_reducible rfl) ?_|refine wq (by simp;with_reducible rfl) ?_|refine wt (by simpa) ?_|refine wf (by simpa) ?_|refine xt (by simpa) ?_|refine xf (by simpa) ?_|refine wp_bs ?_|refine wp_b ?_|refine wp_sr ?_|refine wp_sx ?_|refine wp_ret' ?_|refine wp_skip' ?_|refine wp_exit' ?_)
  simp [zi9,degs]
theorem vEs_in (n:Int):∀ (p:Option (Int×Int)) (es:List (Int×Int)),vEs n p es=true→∀ e ∈ es,okE n e=true
  | _,[],_=>by simp
  | none,e::r,h=>by
    simp only [vEs,Bool.and_eq_true] at h
    intro x hx
    rcases List.mem_cons.1 hx with rfl | hx
    · exact h.1
    · exact vEs_in n _ r h.2 x hx
  | some q,e::r,h=>by
    simp only [vEs,Bool.and_eq_true] at h
    intro x hx
    rcases List.mem_cons.1 hx with rfl | hx
    · exact h.1
    · exact vEs_in n _ r h.2.2 x hx
theorem vG_edges {n:Int} {es:List (Int×Int)} (h:vGraph n es=true):∀ e ∈ es,0≤e.1∧e.1 < e.2∧e.2 < n:=by
  simp only [vGraph,Bool.and_eq_true] at h
  intro e he
  have:=vEs_in n none es h.1 e he
  simpa [okE] using this
theorem vG_in {n:Nat} {es:List (Int×Int)} (h:vGraph n es=true):EdgesIn n es:=fun e he=>by
  have:=vG_edges h e he;omega
theorem vG_n {n:Int} {es:List (Int×Int)} (h:vGraph n es=true):0≤n∧n≤7:=by
  simp only [vGraph,Bool.and_eq_true,decide_eq_true_eq] at h;omega
theorem ev_impl_DegreesOf (n:Nat) (es:List (Int×Int)) (c:Bool) (hf:Fit es) (hl:es.length≤1000) (hv:vGraph n es=true):Ev tb zl161 [] [Gr n es c] [] ⟨O (degs n es),[],[],[]⟩:=by
  have hn:=(vG_n hv).2
  have e1:=ev_lim (ev_ValidGraph n es c hf (by omega))
  have e2:=ev_lim (ev_Graph_degrees n es c (by omega) hl (vG_in hv))
  refine call_of_wp zt161 rfl ?_
  repeat (first|refine wp_as ?_|refine wp_ss ?_|refine wr (by simp [e1,e2,hv];with_reducible rfl) ?_|refine wq (by simp [e1,e2,hv];with_reducible rfl) ?_|refine wt (by simpa [e1,e2,hv]) ?_|refine wf (by simpa [e1,e2,hv]) ?_|refine xt (by simpa [e1,e2,hv]) ?_|refine xf (by simpa [e1,e2,hv]) ?_|refine wp_bs ?_|refine wp_b ?_|refine wp_sr ?_|refine wp_sx ?_|refine wp_ret' ?_|refine wp_skip' ?_|refine wp_exit' ?_)
  simp [zi161]
end Go.Idl
namespace Go.Idl
def S {α:Type} (l:List α) (f:α→Int):Int:=(l.map f).sum
@[simp] theorem S_nil {α:Type} (f:α→Int):S [] f=0:=rfl
@[simp] theorem S_cons {α:Type} (a:α) (l:List α) (f:α→Int):S (a::l) f=f a+S l f:=by simp [S]
theorem S_perm {α:Type} {l k:List α} (h:l.Perm k) (f:α→Int):S l f=S k f:=perm_sum (h.map f)
theorem S_add {α:Type} (l:List α) (f g:α→Int):S l (fun a=>f a+g a)=S l f+S l g:=by
  induction l with
  | nil=>rfl
  | cons a l ih=>simp only [S_cons,ih];omega
theorem S_sub {α:Type} (l:List α) (f g:α→Int):S l (fun a=>f a - g a)=S l f - S l g:=by
  induction l with
  | nil=>rfl
  | cons a l ih=>simp only [S_cons,ih];omega
theorem S_zero {α:Type} (l:List α):S l (fun _=>0)=0:=by
  induction l with
  | nil=>rfl
  | cons a l ih=>simp [ih]
theorem S_const {α:Type} (l:List α) (c:Int):S l (fun _=>c)=l.length * c:=by
  induction l with
  | nil=>simp
  | cons a l ih=>rw [S_cons,ih,List.length_cons,Int.natCast_add,Int.add_mul];simp;omega
theorem S_congr {α:Type} {l:List α} {f g:α→Int} (h:∀ a ∈ l,f a=g a):S l f=S l g:=by
  induction l with
  | nil=>rfl
  | cons a l ih=>rw [S_cons,S_cons,h a (by simp),ih fun b hb=>h b (by simp [hb])]
theorem S_le {α:Type} {l:List α} {f g:α→Int} (h:∀ a ∈ l,f a≤g a):S l f≤S l g:=by
  induction l with
  | nil=>simp
  | cons a l ih =>
    have h1:=h a (by simp)
    have h2:=ih fun b hb=>h b (by simp [hb])
    simp only [S_cons];omega
theorem S_swap {α β:Type} (l:List α) (k:List β) (f:α→β→Int):S l (fun a=>S k (f a))=S k (fun b=>S l (fun a=>f a b)):=by
  induction l with
  | nil=>simp [S_zero]
  | cons a l ih=>simp only [S_cons,S_add,ih]
theorem S_mul {α:Type} (l:List α) (f:α→Int) (c:Int):S l (fun a=>c * f a)=c * S l f:=by
  induction l with
  | nil=>simp
  | cons a l ih=>rw [S_cons,S_cons,ih,Int.mul_add]
theorem S_mulr {α:Type} (l:List α) (f:α→Int) (c:Int):S l (fun a=>f a * c)=S l f * c:=by
  induction l with
  | nil=>simp
  | cons a l ih=>rw [S_cons,S_cons,ih,Int.add_mul]
theorem S_sublist {α:Type} {l k:List α} (h:l.Sublist k) {f:α→Int} (h0:∀ a ∈ k,0≤f a):S l f≤S k f:=by
  induction h with
  | slnil=>simp
  | cons a _ ih =>
    have h1:=h0 a (by simp)
    have h2:=ih fun b hb=>h0 b (by simp [hb])
    rw [S_cons];omega
  | cons_cons a _ ih =>
    have h2:=ih fun b hb=>h0 b (by simp [hb])
    rw [S_cons,S_cons];omega
theorem S_nonneg {α:Type} {l:List α} {f:α→Int} (h:∀ a ∈ l,0≤f a):0≤S l f:=by
  have:=S_le (l:=l) (f:=fun _=>0) h
  rwa [S_zero] at this
theorem S_map {α γ:Type} (l:List γ) (g:γ→α) (f:α→Int):S (l.map g) f=S l (fun c=>f (g c)):=by simp [S];rfl
theorem S_filter {α:Type} (l:List α) (p:α→Bool) (f:α→Int):S (l.filter p) f+S (l.filter fun a=>!p a) f=S l f:=by
  induction l with
  | nil=>rfl
  | cons a l ih =>
    cases hp:p a with
    | true=>simp only [List.filter_cons,hp,if_true,Bool.not_true,Bool.false_eq_true,if_false,S_cons];omega
    | false=>simp only [List.filter_cons,hp,if_true,Bool.not_false,Bool.false_eq_true,if_false,S_cons];omega
theorem perm_map_inv {α β:Type} {f:α→β} {ys zs:List β} (h:ys.Perm zs):∀ {l:List α},zs=l.map f→∃ l':List α,l'.Perm l∧ys=l'.map f:=by
  induction h with
  | nil=>intro l hl;exact ⟨l,.refl _,hl⟩
  | cons x _ ih =>
    intro l hl
    cases l with
    | nil=>simp at hl
    | cons a l =>
      simp only [List.map_cons,List.cons.injEq] at hl
      obtain ⟨l',h1,h2⟩:=ih hl.2
      exact ⟨a::l',h1.cons a,by rw [List.map_cons,← h2,hl.1]⟩
  | swap x y r =>
    intro l hl
    cases l with
    | nil=>simp at hl
    | cons a l =>
      cases l with
      | nil=>simp at hl
      | cons b l =>
        simp only [List.map_cons,List.cons.injEq] at hl
        exact ⟨b::a::l,.swap a b l,by simp [hl.1,hl.2.1,hl.2.2]⟩
  | trans _ _ ih1 ih2 =>
    intro l hl
    obtain ⟨l2,h1,h2⟩:=ih2 hl
    obtain ⟨l3,h3,h4⟩:=ih1 h2
    exact ⟨l3,h3.trans h1,h4⟩
theorem S_one {α:Type} [DecidableEq α] {l:List α} (h:l.Nodup) (x:α):S l (fun a=>if x=a then 1 else 0)=if x ∈ l then 1 else 0:=by
  induction l with
  | nil=>simp
  | cons a l ih =>
    have h':=List.nodup_cons.1 h
    rw [S_cons,ih h'.2]
    by_cases hx:x=a
    · subst hx;simp [h'.1]
    · simp [hx]
theorem below_iff (a b:Int×Int):below a b=true ↔ a.1 < b.1 ∨ (a.1=b.1∧a.2 < b.2):=by simp [below]
theorem below_trans {a b c:Int×Int} (h:below a b=true) (k:below b c=true):below a c=true:=by
  rw [below_iff] at *;omega
theorem below_ne {a b:Int×Int} (h:below a b=true):a ≠ b:=by
  rintro rfl;rw [below_iff] at h;omega
abbrev PW (es:List (Int×Int)):Prop:=es.Pairwise fun a b=>below a b=true
theorem vEs_pw (n:Int):∀ (p:Option (Int×Int)) (es:List (Int×Int)),vEs n p es=true→PW es∧(∀ q,p=some q→∀ e ∈ es,below q e=true)
  | p,[],_=>⟨.nil,by simp⟩
  | none,e::r,h=>by
    simp only [vEs,Bool.and_eq_true] at h
    obtain ⟨h1,h2⟩:=vEs_pw n (some e) r h.2
    exact ⟨List.pairwise_cons.2 ⟨h2 e rfl,h1⟩,by simp⟩
  | some q,e::r,h=>by
    simp only [vEs,Bool.and_eq_true] at h
    obtain ⟨h1,h2⟩:=vEs_pw n (some e) r h.2.2
    refine ⟨List.pairwise_cons.2 ⟨h2 e rfl,h1⟩,fun q' hq' x hx=>?_⟩
    cases hq'
    rcases List.mem_cons.1 hx with rfl | hx
    · exact h.2.1
    · exact below_trans h.2.1 (h2 e rfl x hx)
theorem pw_vEs (n:Int):∀ (p:Option (Int×Int)) (es:List (Int×Int)),PW es→(∀ q,p=some q→∀ e ∈ es,below q e=true)→(∀ e ∈ es,okE n e=true)→vEs n p es=true
  | p,[],_,_,_=>by cases p <;> rfl
  | none,e::r,h,_,ho=>by
    have h':=List.pairwise_cons.1 h
    simp only [vEs,Bool.and_eq_true]
    exact ⟨ho e (by simp),pw_vEs n (some e) r h'.2 (fun q hq x hx=>by cases hq;exact h'.1 x hx) fun x hx=>ho x (by simp [hx])⟩
  | some q,e::r,h,hq,ho=>by
    have h':=List.pairwise_cons.1 h
    simp only [vEs,Bool.and_eq_true]
    exact ⟨ho e (by simp),hq q rfl e (by simp),pw_vEs n (some e) r h'.2 (fun q hq x hx=>by cases hq;exact h'.1 x hx) fun x hx=>ho x (by simp [hx])⟩
theorem row_mem_iff (a:Nat):∀ (m b:Nat) (e:Int×Int),e ∈ row a b m ↔ e.1=a∧(b:Int)≤e.2∧e.2 < b+m
  | 0,b,e=>by simp [row] <;> omega
  | m+1,b,e=>by
    rw [row,List.mem_cons,row_mem_iff a m (b+1) e]
    constructor
    · rintro (rfl | h)
      · simp;omega
      · omega
    · intro h
      by_cases h2:e.2=b
      · exact .inl (Prod.ext h.1 h2)
      · exact .inr (by omega)
theorem prsF_mem_iff:∀ (m a:Nat) (e:Int×Int),e ∈ prsF a m ↔ (a:Int)≤e.1∧e.1 < e.2∧e.2 < a+m
  | 0,a,e=>by simp [prsF];omega
  | m+1,a,e=>by
    rw [prsF,List.mem_append,row_mem_iff,prsF_mem_iff m (a+1) e]
    omega
theorem mem_prs {n:Nat} {e:Int×Int}:e ∈ prs n ↔ 0≤e.1∧e.1 < e.2∧e.2 < n:=by
  rw [prs,prsF_mem_iff];omega
theorem row_pw (a:Nat):∀ (m b:Nat),PW (row a b m)
  | 0,b=>.nil
  | m+1,b=>by
    rw [row]
    refine List.pairwise_cons.2 ⟨fun e he=>?_,row_pw a m (b+1)⟩
    rw [row_mem_iff] at he
    rw [below_iff];simp only;omega
theorem prsF_pw:∀ (m a:Nat),PW (prsF a m)
  | 0,a=>.nil
  | m+1,a=>by
    rw [prsF]
    refine List.pairwise_append.2 ⟨row_pw a m (a+1),prsF_pw m (a+1),fun x hx y hy=>?_⟩
    rw [row_mem_iff] at hx
    rw [prsF_mem_iff] at hy
    rw [below_iff];omega
theorem prs_pw (n:Nat):PW (prs n):=prsF_pw n 0
theorem pw_nodup {es:List (Int×Int)} (h:PW es):es.Nodup:=h.imp fun h=>below_ne h
theorem pw_ext {xs ys:List (Int×Int)} (hx:PW xs) (hy:PW ys) (h:∀ e,e ∈ xs ↔ e ∈ ys):xs=ys:=by
  refine List.Perm.eq_of_pairwise (le:=fun a b=>below a b=true) (fun a b _ _ h1 h2=>absurd (below_trans h1 h2) (fun h=>below_ne h rfl)) hx hy ?_
  exact (List.perm_ext_iff_of_nodup (pw_nodup hx) (pw_nodup hy)).2 h
theorem vG_iff {n:Nat} {es:List (Int×Int)}:vGraph n es=true ↔ PW es∧(∀ e ∈ es,e ∈ prs n)∧n≤7:=by
  constructor
  · intro h
    have h1:=vG_n h
    have h2:=vG_edges h
    simp only [vGraph,Bool.and_eq_true] at h
    exact ⟨(vEs_pw n none es h.1).1,fun e he=>mem_prs.2 (h2 e he),by omega⟩
  · rintro ⟨h1,h2,h3⟩
    simp only [vGraph,Bool.and_eq_true,decide_eq_true_eq]
    refine ⟨pw_vEs n none es h1 (by simp) fun e he=>?_,by omega,by omega⟩
    have:=mem_prs.1 (h2 e he)
    simp only [okE,Bool.and_eq_true,decide_eq_true_eq];omega
theorem vG_filter {n:Nat} {es:List (Int×Int)} (h:vGraph n es=true):es=(prs n).filter fun e=>decide (e ∈ es):=by
  obtain ⟨h1,h2,h3⟩:=vG_iff.1 h
  refine pw_ext h1 ((prs_pw n).filter _) fun e=>?_
  rw [List.mem_filter,decide_eq_true_eq]
  exact ⟨fun he=>⟨h2 e he,he⟩,fun he=>he.2⟩
theorem vG_sub {n:Nat} {es:List (Int×Int)} (h:vGraph n es=true):es.Sublist (prs n):=by
  rw [vG_filter h];exact List.filter_sublist
def inc (v:Nat) (e:Int×Int):Int:=(if e.1=v then 1 else 0)+(if e.2=v then 1 else 0)
def deg (es:List (Int×Int)) (v:Nat):Int:=S es (inc v)
theorem bump_get {o:List Int} {i v:Nat} (hv:v < o.length):(bump o i).getD v 0=o.getD v 0+(if i=v then 1 else 0):=by
  rw [bump,List.getD_eq_getElem?_getD,List.getElem?_set]
  by_cases h:i=v
  · subst h;simp [hv,List.getD_eq_getElem?_getD]
  · simp [h,List.getD_eq_getElem?_getD]
theorem dfold_get {n:Nat}:∀ (es:List (Int×Int)) (o:List Int),(∀ e ∈ es,0≤e.1∧0≤e.2)→∀ v,v < o.length→(dfold o es).getD v 0=o.getD v 0+deg es v
  | [],o,_,v,_=>by simp [dfold,deg]
  | e::es,o,h,v,hv=>by
    have h1:=h e (by simp)
    have:=dfold_get (n:=n) es (bump (bump o e.1.toNat) e.2.toNat) (fun x hx=>h x (by simp [hx])) v (by simp [bump_len];exact hv)
    rw [show dfold o (e::es)=dfold (bump (bump o e.1.toNat) e.2.toNat) es from rfl,this,bump_get (by rw [bump_len];exact hv),bump_get hv,deg,deg,S_cons]
    have c1:(e.1.toNat=v)=(e.1=(v:Int)):=by rw [eq_iff_iff];omega
    have c2:(e.2.toNat=v)=(e.2=(v:Int)):=by rw [eq_iff_iff];omega
    simp only [inc,c1,c2]
    omega
theorem degs_eq {n:Nat} {es:List (Int×Int)} (h:EdgesIn n es):degs n es=(List.range n).map (deg es):=by
  have hl:(degs n es).length=n:=by rw [degs,dfold_len];simp
  refine List.ext_getElem (by simp [hl]) fun v h1 h2=>?_
  have:=dfold_get (n:=n) es (List.replicate n 0) (fun e he=>by have:=h e he;omega) v (by simp;omega)
  rw [← degs,List.getD_eq_getElem?_getD,List.getElem?_eq_getElem h1] at this
  simp only [Option.getD_some] at this
  rw [this]
  simp [List.getD_eq_getElem?_getD]
  rw [List.getElem?_eq_getElem (by simp;omega)];simp
theorem S_inc {n:Nat} {e:Int×Int} (h:e ∈ prs n) {l:List Nat} (hl:l.Perm (List.range n)):S l (fun v=>inc v e)=2:=by
  have h0:=mem_prs.1 h
  have key:∀ x:Int,0≤x→x < n→S l (fun v=>if x=(v:Int) then 1 else 0)=1:=by
    intro x hx hxn
    obtain ⟨k,rfl⟩:=Int.eq_ofNat_of_zero_le hx
    have:∀ v ∈ l,(if (k:Int)=(v:Int) then (1:Int) else 0)=if k=v then 1 else 0:=fun v _=>by simp only [Int.ofNat_inj]
    rw [S_congr this,S_one (hl.nodup_iff.2 List.nodup_range),if_pos (hl.mem_iff.2 (List.mem_range.2 (by omega)))]
  simp only [inc]
  rw [S_add,key _ (by omega) (by omega),key _ (by omega) (by omega)]
  rfl
theorem degs_sum {n:Nat} {es:List (Int×Int)} (h:∀ e ∈ es,e ∈ prs n):(degs n es).sum=2 * es.length:=by
  rw [degs_eq fun e he=>by have:=mem_prs.1 (h e he);omega]
  show S (List.range n) (fun v=>S es (fun e=>inc v e))=_
  rw [S_swap,S_congr (g:=fun _=>2) fun e he=>S_inc (h e he) (.refl _),S_const]
  omega
theorem deg_prs_all:(List.range 8).all (fun n=>(List.range n).all fun v=>decide (deg (prs n) v=(n:Int) - 1))=true:=by decide +kernel
theorem deg_prs {n v:Nat} (hn:n≤7) (hv:v < n):deg (prs n) v=(n:Int) - 1:=by
  have:=List.all_eq_true.1 (List.all_eq_true.1 deg_prs_all n (List.mem_range.2 (by omega))) v (List.mem_range.2 hv)
  exact of_decide_eq_true this
def adj (e:Int×Int) (a b:Nat):Int:=(if e.1=a then 1 else 0) * (if e.2=b then 1 else 0)+(if e.2=a then 1 else 0) * (if e.1=b then 1 else 0)
theorem adj_all:(List.range 8).all (fun n=>(List.range n).all fun a=>(List.range n).all fun b=>decide (S (prs n) (fun e=>adj e a b)=if a=b then 0 else 1))=true:=by decide +kernel
theorem adj_prs {n a b:Nat} (hn:n≤7) (ha:a < n) (hb:b < n):S (prs n) (fun e=>adj e a b)=if a=b then 0 else 1:=by
  have:=List.all_eq_true.1 (List.all_eq_true.1 (List.all_eq_true.1 adj_all n (List.mem_range.2 (by omega))) a (List.mem_range.2 ha)) b (List.mem_range.2 hb)
  exact of_decide_eq_true this
theorem ind01 {l:List Nat} (h:l.Nodup) (x:Int):S l (fun v=>if x=(v:Int) then 1 else 0)=0 ∨ S l (fun v=>if x=(v:Int) then 1 else 0)=1:=by
  by_cases hx:0≤x
  · obtain ⟨k,rfl⟩:=Int.eq_ofNat_of_zero_le hx
    have:∀ v ∈ l,(if (k:Int)=(v:Int) then (1:Int) else 0)=if k=v then 1 else 0:=fun v _=>by simp only [Int.ofNat_inj]
    rw [S_congr this,S_one h]
    split
    · exact .inr rfl
    · exact .inl rfl
  · refine .inl ?_
    rw [S_congr (g:=fun _=>0) fun v _=>if_neg (by omega),S_zero]
theorem two_sets {n k m:Nat} {es:List (Int×Int)} (h:vGraph n es=true) {π:List Nat} (hπ:π.Perm (List.range n)) (hkm:k≤m) (hm:m≤n) :
    S (π.take k) (deg es)+S (π.take m) (deg es)≤(k:Int) * ((m:Int) - 1)+S π (deg es):=by
  have hn:=(vG_iff.1 h).2.2
  have hin:=(vG_iff.1 h).2.1
  have hnd:π.Nodup:=hπ.nodup_iff.2 List.nodup_range
  have hπl:π.length=n:=by rw [hπ.length_eq,List.length_range]
  have hlt:∀ v ∈ π,v < n:=fun v hv=>List.mem_range.1 (hπ.mem_iff.1 hv)
  obtain ⟨A,hA⟩:∃ A,A=π.take k:=⟨_,rfl⟩
  obtain ⟨B,hB⟩:∃ B,B=π.take m:=⟨_,rfl⟩
  have hAB:A.Sublist B:=by
    rw [hA,hB,show π.take k=(π.take m).take k by rw [List.take_take,Nat.min_eq_left hkm]]
    exact List.take_sublist _ _
  have hBn:B.Nodup:=by rw [hB];exact hnd.sublist (List.take_sublist _ _)
  have hAn:A.Nodup:=hBn.sublist hAB
  have hBl:B.length=m:=by rw [hB,List.length_take];omega
  have hAl:A.length=k:=by rw [hA,List.length_take];omega
  have hBm:∀ v ∈ B,v < n:=fun v hv=>hlt v (by rw [hB] at hv;exact List.mem_of_mem_take hv)
  rw [← hA,← hB]
  have sw:∀ l:List Nat,S l (deg es)=S es (fun e=>S l (fun v=>inc v e)):=fun l=>S_swap l es fun v e=>inc v e
  have hw:S es (fun e=>S A (fun a=>S B (fun b=>adj e a b)))≤(k:Int) * ((m:Int) - 1):=by
    refine Int.le_trans (S_sublist (vG_sub h) (f:=fun e=>S A (fun a=>S B (fun b=>adj e a b))) fun e _=>S_nonneg fun a _=>S_nonneg fun b _=>?_) ?_
    · simp only [adj]
      split <;> split <;> split <;> split <;> decide
    · rw [S_swap]
      have:∀ a ∈ A,S (prs n) (fun e=>S B (fun b=>adj e a b))=(m:Int) - 1:=fun a ha=>by
        have ha':=hAB.mem ha
        rw [S_swap,S_congr (g:=fun b=>1 - (if a=b then 1 else 0)) fun b hb=>by
          rw [adj_prs hn (hBm a ha') (hBm b hb)];split <;> rfl]
        rw [S_sub,S_const,S_one hBn,if_pos ha',hBl];omega
      rw [S_congr this,S_const,hAl]
      exact Int.le_refl _
  have he:∀ e ∈ es,S A (fun v=>inc v e)+S B (fun v=>inc v e) - 2≤S A (fun a=>S B (fun b=>adj e a b)):=fun e he=>by
    have hwe:S A (fun a=>S B (fun b=>adj e a b))=S A (fun v=>if e.1=(v:Int) then 1 else 0) * S B (fun v=>if e.2=(v:Int) then 1 else 0)+S A (fun v=>if e.2=(v:Int) then 1 else 0) * S B (fun v=>if e.1=(v:Int) then 1 else 0):=by
      rw [← S_mulr,← S_mulr,← S_add]
      refine S_congr fun a _=>?_
      rw [← S_mul,← S_mul,← S_add]
      rfl
    rw [hwe]
    simp only [inc]
    rw [S_add,S_add]
    have m1:S A (fun v=>if e.1=(v:Int) then 1 else 0)≤S B (fun v=>if e.1=(v:Int) then 1 else 0):=S_sublist hAB fun v _=>by split <;> decide
    have m2:S A (fun v=>if e.2=(v:Int) then 1 else 0)≤S B (fun v=>if e.2=(v:Int) then 1 else 0):=S_sublist hAB fun v _=>by split <;> decide
    rcases ind01 hAn e.1 with h1 | h1 <;> rcases ind01 hAn e.2 with h2 | h2 <;> rcases ind01 hBn e.1 with h3 | h3 <;> rcases ind01 hBn e.2 with h4 | h4 <;> rw [h1,h3] at m1 <;> rw [h2,h4] at m2 <;> rw [h1,h2,h3,h4] <;> omega
  have hs:=S_le he
  rw [S_sub,S_add,S_const] at hs
  have h2:S π (deg es)=es.length * 2:=by
    rw [sw,S_congr (g:=fun _=>2) fun e he=>S_inc (hin e he) hπ,S_const]
  rw [sw A,sw B,h2]
  omega
theorem degs_valid {n:Nat} {es:List (Int×Int)} (h:vGraph n es=true):valid (degs n es)=true:=by
  obtain ⟨h1,h2,hn⟩:=vG_iff.1 h
  have hE:EdgesIn n es:=fun e he=>by have:=mem_prs.1 (h2 e he);omega
  rw [degs_eq hE]
  simp only [valid,Bool.and_eq_true,decide_eq_true_eq,List.all_eq_true,List.length_map,List.length_range]
  refine ⟨hn,fun x hx=>?_⟩
  obtain ⟨v,hv,rfl⟩:=List.mem_map.1 hx
  have hv:=List.mem_range.1 hv
  have hi:∀ e:Int×Int,0≤inc v e:=fun e=>by simp only [inc];split <;> split <;> decide
  have h3:deg es v≤deg (prs n) v:=S_sublist (vG_sub h) fun e _=>hi e
  have h4:0≤deg es v:=S_nonneg fun e _=>hi e
  have:=deg_prs hn hv
  omega
theorem degs_graphic {n:Nat} {es:List (Int×Int)} (h:vGraph n es=true):graphic (degs n es)=true:=by
  obtain ⟨h1,h2,hn⟩:=vG_iff.1 h
  have hE:EdgesIn n es:=fun e he=>by have:=mem_prs.1 (h2 e he);omega
  have hs:=degs_sum h2
  have hde:=degs_eq hE
  obtain ⟨π,hπ,hfp⟩:=perm_map_inv (f:=deg es) (fall_perm (degs n es)) (l:=List.range n) hde
  refine (graphic_iff _).2 ⟨degs_valid h,by omega,fun k m hk hkm hm=>?_⟩
  rw [show (degs n es).length=n by rw [hde];simp] at hm
  have:=two_sets h hπ hkm hm
  have hsum:(degs n es).sum=S π (deg es):=by rw [hde];exact S_perm hπ.symm _
  simp only [tops,hfp,hsum]
  rw [← List.map_take,← List.map_take]
  exact this
end Go.Idl
namespace Go.Idl
open Go
def SrtOn (X:List (Int×Int)) (a b:Nat):Prop:=∀ k l e f,a≤k→k < l→l < b→X[k]? = some e→X[l]? = some f→below e f=true
def CutOn (X:List (Int×Int)) (a mid b:Nat):Prop:=∀ k l e f,a≤k→k < mid→mid≤l→l < b→X[k]? = some e→X[l]? = some f→below e f=true
theorem srt_join {X Y:List (Int×Int)} {a mid b:Nat} (hn:X.Nodup) (h1:SrtOn X a mid) (hc:CutOn X a mid b) (hs:Seg X Y mid b) (h2:SrtOn Y mid b):SrtOn Y a b:=by
  intro k l e f hk hkl hl he hf
  by_cases h:mid≤k
  · exact h2 k l e f h hkl hl he hf
  · have he':X[k]? = some e:=by rw [← hs.out k (by omega)];exact he
    by_cases h':mid≤l
    · obtain ⟨l',hl',hf'⟩:=hs.back hn ⟨h',hl⟩ hf
      exact hc k l' e f hk (by omega) (by omega) (by omega) he' hf'
    · have hf':X[l]? = some f:=by rw [← hs.out l (by omega)];exact hf
      exact h1 k l e f hk hkl (by omega) he' hf'
theorem srt_join' {X Y:List (Int×Int)} {a mid b:Nat} (hn:X.Nodup) (h1:SrtOn X mid b) (hc:CutOn X a mid b) (hs:Seg X Y a mid) (h2:SrtOn Y a mid):SrtOn Y a b:=by
  intro k l e f hk hkl hl he hf
  by_cases h:l < mid
  · exact h2 k l e f hk hkl h he hf
  · have hf':X[l]? = some f:=by rw [← hs.out l (by omega)];exact hf
    by_cases h':k < mid
    · obtain ⟨k',hk',he'⟩:=hs.back hn ⟨hk,h'⟩ he
      exact hc k' l e f (by omega) (by omega) (by omega) hl he' hf'
    · have he':X[k]? = some e:=by rw [← hs.out k (by omega)];exact he
      exact h1 k l e f (by omega) hkl hl he' hf'
theorem below_ht (a b c:Int×Int) (h1:below b a=false) (h2:below c b=false):below c a=false:=by
  rw [← Bool.not_eq_true] at *
  simp only [below,Bool.or_eq_true,Bool.and_eq_true,decide_eq_true_eq] at *
  omega
theorem ins_part (X:List (Int×Int)) (hX:∀ x ∈ X,DE x) (hn:X.Nodup) (hl:X.length≤700000) (a n:Nat) (hab:a+n≤X.length) (M:List Boxes) :
    ∃ X':List (Int×Int),Seg X X' a (a+n)∧SrtOn X' a (a+n)∧Ev tb zl277 [0] [O2 X,I a,I ((a:Int)+n),fcE] M ⟨.tup [],[O2 X'],M,[]⟩:=by
  have hc:CmpOK vE zl32 [] below DE M:=fun x y hx hy=>⟨cmpE x y,cmpE_below x y,ev_cmpE hx hy _⟩
  obtain ⟨P,hP⟩:∃ P,P=X.take a:=⟨_,rfl⟩
  obtain ⟨S,hS⟩:∃ S,S=(X.drop a).take n:=⟨_,rfl⟩
  obtain ⟨Q,hQ⟩:∃ Q,Q=X.drop (a+n):=⟨_,rfl⟩
  have hXe:X=P++(S++Q):=by
    rw [hP,hS,hQ,← List.drop_drop,List.take_append_drop,List.take_append_drop]
  have hPl:P.length=a:=by rw [hP,List.length_take];omega
  have hSl:S.length=n:=by rw [hS,List.length_take,List.length_drop];omega
  have hsrt:=srtC_ok (lt:=below) below_ht (fun a b h=>below_asymm h) S [] .nil
  have hsp:=hsrt.2
  rw [List.nil_append] at hsp
  have hTl:(srtC below [] S).length=n:=by rw [hsp.length_eq,hSl]
  have hp:(P++(srtC below [] S++Q)).Perm X:=by
    rw [hXe];exact List.Perm.append_left P (hsp.append_right Q)
  refine ⟨P++(srtC below [] S++Q),⟨hp,fun k hk=>?_⟩,?_,?_⟩
  · rw [hXe]
    rcases hk with hk | hk
    · rw [List.getElem?_append_left (by omega),List.getElem?_append_left (by omega)]
    · rw [List.getElem?_append_right (by omega),List.getElem?_append_right (by omega),List.getElem?_append_right (by omega),List.getElem?_append_right (by omega),hTl,hSl]
  · intro k l e f hk hkl hlb he hf
    have hny:(P++(srtC below [] S++Q)).Nodup:=hp.nodup_iff.2 hn
    have hne:e ≠ f:=by
      rintro rfl
      obtain ⟨h1,h2⟩:=List.getElem?_eq_some_iff.1 he
      obtain ⟨h3,h4⟩:=List.getElem?_eq_some_iff.1 hf
      have:=(List.getElem_inj hny).1 (h2.trans h4.symm)
      omega
    rw [List.getElem?_append_right (by omega),List.getElem?_append_left (by omega)] at he hf
    obtain ⟨h1,h2⟩:=List.getElem?_eq_some_iff.1 he
    obtain ⟨h3,h4⟩:=List.getElem?_eq_some_iff.1 hf
    have:=List.pairwise_iff_getElem.1 hsrt.1 _ _ h1 h3 (by omega)
    rw [h2,h4] at this
    rcases below_total hne with h | h
    · exact h
    · rw [this] at h;cases h
  · have e:=ev_insCe zl32 [] below DE M hc P Q S (by rw [hXe] at hl;simp at hl;omega) (fun x hx=>hX x (by rw [hXe];simp [hx]))
    rw [← hXe,hPl,hSl,show ((a+n:Nat):Int)=(a:Int)+n by omega] at e
    exact e
def PdqRec (n:Nat) (lim:Nat) (M:List Boxes):Prop:=∀ (n' a':Nat) (X:List (Int×Int)),n'+2≤n→(∀ x ∈ X,DE x)→X.Nodup→X.length≤700000→a'+n'≤X.length→(a'=0 ∨ ∀ k e f,a'≤k→k < a'+n'→X[a' - 1]? = some e→X[k]? = some f→below e f=true) →
  ∃ X':List (Int×Int),Seg X X' a' (a'+n')∧SrtOn X' a' (a'+n')∧limF tb zl285 [0] [O2 X,I a',I ((a':Int)+n'),I lim,fcE] M=some ⟨.tup [],[O2 X'],M,[]⟩
abbrev cD:IC:=(.seq z285r20 (.seq z285r21 (.seq z285r22 (.seq z285r23 (.seq z285r24 (.cond (.t 125) (.seq z285r25 (.seq z285r26 z285r27)) (.seq z285r28 (.seq z285r29 z285r30))))))))
set_option maxHeartbeats 2000000 in
theorem pdq_D (X:List (Int×Int)) (hX:∀ x ∈ X,DE x) (hn:X.Nodup) (hl:X.length≤700000) (a n m lim:Nat) (h13:13≤n) (h21:n≤21) (hab:a+n≤X.length) (hm:a≤m∧m < a+n) (M:List Boxes) (hrec:PdqRec n lim (M++[[]]))
    (h0:a=0 ∨ ∀ k e f,a≤k→k < a+n→X[a - 1]? = some e→X[k]? = some f→below e f=true)
    (p1:∃ p,(a≤p∧p < a+n)∧∀ h1 h2,below (X[p]'h1) (X[m]'h2)=true) (p2:∃ p,(a≤p∧p < a+n)∧∀ h1 h2,below (X[m]'h1) (X[p]'h2)=true)
    (bal part:Bool) (Q:Ex→St→Prop)
    (hL:∀ (X3:List (Int×Int)) (mid:Nat) (bal part:Bool),a < mid→mid+1 < a+n→Seg X X3 a (a+n)→SrtOn X3 a (mid+1)→CutOn X3 a (mid+1) (a+n) →
      Q .normal { T:=[(0,O2 X3),(1,I (mid+1:Nat)),(2,I ((a:Int)+n)),(3,I lim),(4,fcE),(10,Bo bal),(11,Bo part)],loc:=[],M:=M })
    (hR:∀ (X3:List (Int×Int)) (mid:Nat) (bal part:Bool),a < mid→mid+1 < a+n→Seg X X3 a (a+n)→SrtOn X3 mid (a+n)→CutOn X3 a mid (a+n) →
      Q .normal { T:=[(0,O2 X3),(1,I a),(2,I mid),(3,I lim),(4,fcE),(10,Bo bal),(11,Bo part)],loc:=[],M:=M }) :
    wp tb cD { T:=[(0,O2 X),(1,I a),(2,I ((a:Int)+n)),(3,I lim),(4,fcE),(10,Bo bal),(11,Bo part),(12,I n),(13,I m),(97,Bo false)],loc:=[],M:=M } Q:=by
  obtain ⟨X2,mid,t,hS,hmid,hpv,hcut,hE⟩:=ev_partition X hX (by omega) a n m (by omega) hab hm (M++[[]])
  have e1:=ev_lim hE
  have hml:m < X.length:=by omega
  rw [List.getElem?_eq_getElem hml] at hpv hcut
  obtain ⟨hlo,hhi⟩:=hcut _ rfl
  have hl2:=hS.len
  have hn2:=hS.nodup hn
  have hX2:∀ x ∈ X2,DE x:=fun x hx=>hX x (hS.perm.mem_iff.1 hx)
  obtain ⟨p,hp,hp1⟩:=p1
  obtain ⟨q,hq,hq1⟩:=p2
  have hpl:p < X.length:=by omega
  have hql:q < X.length:=by omega
  have hp1:=hp1 hpl hml
  have hq1:=hq1 hml hql
  have whereIs:∀ r,(a≤r∧r < a+n)→∀ hr:r < X.length,∃ r',(a≤r'∧r' < a+n)∧X2[r']? = some X[r]:=fun r hr hrl=>by
    have hm2:X[r] ∈ X2:=hS.perm.mem_iff.2 (List.getElem_mem hrl)
    obtain ⟨r',hr',he⟩:=List.getElem_of_mem hm2
    refine ⟨r',?_,by rw [List.getElem?_eq_getElem hr',he]⟩
    refine Classical.byContradiction fun hno=>?_
    have h1:=hS.out r' (by omega)
    rw [List.getElem?_eq_getElem hr',he] at h1
    obtain ⟨h2,h3⟩:=List.getElem?_eq_some_iff.1 h1.symm
    have:=(List.getElem_inj hn).1 h3
    omega
  obtain ⟨p',hp',hpe⟩:=whereIs p hp hpl
  obtain ⟨q',hq',hqe⟩:=whereIs q hq hql
  have hamid:a < mid:=by
    refine Classical.byContradiction fun hno=>?_
    have hma:mid=a:=by omega
    by_cases hpm:p'=mid
    · rw [hpm,hpv] at hpe
      exact below_ne hp1 (Option.some.inj hpe).symm
    · have:=hhi p' _ (by omega) hp'.2 hpe
      rw [hp1] at this;cases this
  have hmidb:mid+1 < a+n:=by
    refine Classical.byContradiction fun hno=>?_
    have hma:mid+1=a+n:=by omega
    by_cases hpm:q'=mid
    · rw [hpm,hpv] at hqe
      exact below_ne hq1 (Option.some.inj hqe)
    · have:=hlo q' _ hq'.1 (by omega) hqe
      rw [below_asymm hq1] at this;cases this
  have hhi':∀ k e,mid < k→k < a+n→X2[k]? = some e→below X[m] e=true:=fun k e k1 k2 he=>by
    have h1:=hhi k e (by omega) k2 he
    have hne:X[m] ≠ e:=by
      rintro rfl
      obtain ⟨h2,h3⟩:=List.getElem?_eq_some_iff.1 he
      obtain ⟨h4,h5⟩:=List.getElem?_eq_some_iff.1 hpv
      have:=(List.getElem_inj hn2).1 (h3.trans h5.symm)
      omega
    rcases below_total hne with h | h
    · exact h
    · rw [h1] at h;cases h
  have hcutm:CutOn X2 a mid (a+n):=fun k l e f k1 k2 k3 k4 he hf=>by
    have h1:=hlo k e k1 k2 he
    by_cases hlm:l=mid
    · rw [hlm,hpv] at hf;cases hf;exact h1
    · exact below_trans h1 (hhi' l f (by omega) k4 hf)
  have hcutm':CutOn X2 a (mid+1) (a+n):=fun k l e f k1 k2 k3 k4 he hf=>by
    by_cases hkm:k=mid
    · rw [hkm,hpv] at he;cases he;exact hhi' l f (by omega) k4 hf
    · exact hcutm k l e f k1 (by omega) (by omega) k4 he hf
  obtain ⟨n1,hn1⟩:∃ n1,mid=a+n1:=⟨mid - a,by omega⟩
  obtain ⟨n2,hn2'⟩:∃ n2,n=n1+1+n2:=⟨n - (n1+1),by omega⟩
  have w1:IntKind.i64.wrap ((mid:Int) - a)=(n1:Int):=by rw [wrap64 (by omega) (by omega)];omega
  have w2:IntKind.i64.wrap ((a:Int)+n - mid)=((n2+1:Nat):Int):=by rw [wrap64 (by omega) (by omega)];omega
  have t1:(n:Int).tdiv 8=((n / 8:Nat):Int):=by rw [Int.tdiv_eq_ediv_of_nonneg (by omega)];rfl
  obtain ⟨th,hth⟩:∃ th,th=n / 8:=⟨_,rfl⟩
  rw [← hth] at t1
  have w3:IntKind.i64.wrap (th:Int)=(th:Int):=wrap64 (by omega) (by omega)
  have w4:IntKind.i64.wrap ((mid:Int)+1)=(mid:Int)+1:=wrap64 (by omega) (by omega)
  by_cases hc:(n1:Int) < ((n2+1:Nat):Int)
  · obtain ⟨X3,hS3,hsr,e2⟩:=hrec n1 a X2 (by omega) hX2 hn2 (by omega) (by omega) (by
      rcases h0 with h0 | h0
      · exact .inl h0
      · by_cases ha:a=0
        · exact .inl ha
        · refine .inr fun k e f k1 k2 he hf=>?_
          rw [hS.out (a - 1) (by omega)] at he
          obtain ⟨k',hk',hf'⟩:=hS.back hn ⟨k1,by omega⟩ hf
          exact h0 k' e f hk'.1 hk'.2 he hf')
    rw [show (a:Int)+n1=(mid:Int) by omega] at e2
    have hfin:=hL X3 mid (decide (th≤n1)) t hamid hmidb (hS.trans (hS3.mono (Nat.le_refl _) (by omega))) (srt_join' hn2 (fun k l e f k1 k2 k3=>by omega) (fun k l e f k1 k2 k3 k4=>hcutm k l e f k1 (by omega) k3 (by omega)) (by rw [← hn1] at hS3;exact hS3) (by rw [← hn1] at hsr;exact hsr)) (fun k l e f k1 k2 k3 k4 he hf=>by
      have hf':X2[l]? = some f:=by rw [← hS3.out l (by omega)];exact hf
      by_cases hkm:k=mid
      · have he':X2[k]? = some e:=by rw [← hS3.out k (by omega)];exact he
        exact hcutm' k l e f k1 k2 k3 k4 he' hf'
      · obtain ⟨k',hk',he'⟩:=hS3.back hn2 ⟨k1,by omega⟩ he
        exact hcutm' k' l e f hk'.1 (by omega) k3 k4 he' hf')
    rw [show ((mid+1:Nat):Int)=(mid:Int)+1 by omega] at hfin
    rw [show ((n2+1:Nat):Int)=(n2:Int)+1 by omega] at hc w2
    repeat (first|refine wp_as ?_|refine wp_ss ?_|refine wr (by simp [e1,e2,w1,w2,w3,w4,t1,hc];with_reducible rfl) ?_|refine wq (by simp [e1,e2,w1,w2,w3,w4,t1,hc];with_reducible rfl) ?_|refine wt (by simpa [e1,e2,w1,w2,w3,w4,t1,hc]) ?_|refine wf (by simpa [e1,e2,w1,w2,w3,w4,t1,hc]) ?_|refine xt (by simpa [e1,e2,w1,w2,w3,w4,t1,hc]) ?_|refine xf (by simpa [e1,e2,w1,w2,w3,w4,t1,hc]) ?_|refine wp_bs ?_|refine wp_b ?_|refine wp_sr ?_|refine wp_sx ?_|refine wp_ret' ?_|refine wp_skip' ?_|refine wp_exit' ?_)
    exact hfin
  · obtain ⟨X3,hS3,hsr,e2⟩:=hrec n2 (mid+1) X2 (by omega) hX2 hn2 (by omega) (by omega) (.inr fun k e f k1 k2 he hf=>by
      rw [Nat.add_sub_cancel,hpv] at he
      cases he
      exact hhi' k f (by omega) (by omega) hf)
    rw [show ((mid+1:Nat):Int)+n2=(a:Int)+n by omega,show ((mid+1:Nat):Int)=(mid:Int)+1 by omega] at e2
    have hS3':Seg X2 X3 (mid+1) (a+n):=by rw [show mid+1+n2=a+n by omega] at hS3;exact hS3
    have hsr':SrtOn X3 (mid+1) (a+n):=by rw [show mid+1+n2=a+n by omega] at hsr;exact hsr
    have hfin:=hR X3 mid (decide ((th:Int)≤(n2:Int)+1)) t hamid hmidb (hS.trans (hS3'.mono (by omega) (Nat.le_refl _))) (srt_join hn2 (mid:=mid+1) (fun k l e f k1 k2 k3=>by omega) (fun k l e f k1 k2 k3 k4=>hcutm' k l e f (by omega) k2 k3 k4) hS3' hsr') (fun k l e f k1 k2 k3 k4 he hf=>by
      have he':X2[k]? = some e:=by rw [← hS3'.out k (by omega)];exact he
      by_cases hlm:l=mid
      · have hf':X2[l]? = some f:=by rw [← hS3'.out l (by omega)];exact hf
        exact hcutm k l e f k1 k2 k3 k4 he' hf'
      · obtain ⟨l',hl',hf'⟩:=hS3'.back hn2 ⟨by omega,k4⟩ hf
        exact hcutm k l' e f k1 k2 (by omega) hl'.2 he' hf')
    rw [show ((n2+1:Nat):Int)=(n2:Int)+1 by omega] at hc w2
    repeat (first|refine wp_as ?_|refine wp_ss ?_|refine wr (by simp [e1,e2,w1,w2,w3,w4,t1,hc];with_reducible rfl) ?_|refine wq (by simp [e1,e2,w1,w2,w3,w4,t1,hc];with_reducible rfl) ?_|refine wt (by simpa [e1,e2,w1,w2,w3,w4,t1,hc]) ?_|refine wf (by simpa [e1,e2,w1,w2,w3,w4,t1,hc]) ?_|refine xt (by simpa [e1,e2,w1,w2,w3,w4,t1,hc]) ?_|refine xf (by simpa [e1,e2,w1,w2,w3,w4,t1,hc]) ?_|refine wp_bs ?_|refine wp_b ?_|refine wp_sr ?_|refine wp_sx ?_|refine wp_ret' ?_|refine wp_skip' ?_|refine wp_exit' ?_)
    exact hfin
end Go.Idl
namespace Go.Idl
open Go
abbrev cB':IC:=(.seq (.seq z285r11 (.cond (.t 56) (.seq z285r12 (.seq z285r13 z285r14)) .skip)) (.seq (.seq z285r15 (.cond (.t 75) (.seq z285r16 (.cond (.t 80) .ret .skip)) .skip)) (.seq (.seq z285r17 (.cond (.t 97) (.seq z285r18 (.seq z285r19 (.exit 1))) .skip)) cD)))
abbrev cB:IC:=.seq z285r10 cB'
theorem srt_adj {X:List (Int×Int)} {a b:Nat} (hn:X.Nodup) (h:∀ k,a < k→k < b→∀ h1 h2,below (X[k]'h1) (X[k - 1]'h2)=false):SrtOn X a b:=by
  have key:∀ (d k:Nat) (e f:Int×Int),a≤k→k+d+1 < b→X[k]? = some e→X[k+d+1]? = some f→below e f=true:=by
    intro d
    induction d with
    | zero =>
      intro k e f hk hb he hf
      obtain ⟨h1,h2⟩:=List.getElem?_eq_some_iff.1 he
      obtain ⟨h3,h4⟩:=List.getElem?_eq_some_iff.1 hf
      have h5:=h (k+0+1) (by omega) hb h3 (by simpa using h1)
      simp only [Nat.add_zero,Nat.add_sub_cancel] at h5 h4
      rw [h4,h2] at h5
      have hne:e ≠ f:=by
        rintro rfl
        have:=(List.getElem_inj hn).1 (h2.trans h4.symm)
        omega
      rcases below_total hne with q | q
      · exact q
      · rw [h5] at q;cases q
    | succ d ih =>
      intro k e f hk hb he hf
      have h3:=(List.getElem?_eq_some_iff.1 hf).1
      have hg:k+d+1 < X.length:=by omega
      have q1:=ih k e X[k+d+1] hk (by omega) he (List.getElem?_eq_getElem hg)
      obtain ⟨h3,h4⟩:=List.getElem?_eq_some_iff.1 hf
      have h5:=h (k+(d+1)+1) (by omega) hb h3 (by omega)
      have hi:k+(d+1)+1 - 1=k+d+1:=by omega
      simp only [hi] at h5
      rw [h4] at h5
      have hne:X[k+d+1] ≠ f:=by
        intro he2
        have:=(List.getElem_inj hn).1 (he2.trans h4.symm)
        omega
      rcases below_total hne with q | q
      · exact below_trans q1 q
      · rw [h5] at q;cases q
  intro k l e f hk hkl hl he hf
  obtain ⟨d,rfl⟩:∃ d,l=k+d+1:=⟨l - k - 1,by omega⟩
  exact key d k e f hk hl he hf
set_option maxHeartbeats 8000000 in
theorem pdq_B' (X:List (Int×Int)) (hX:∀ x ∈ X,DE x) (hn:X.Nodup) (hl:X.length≤700000) (a n lim:Nat) (h13:13≤n) (h21:n≤21) (hab:a+n≤X.length) (M:List Boxes) (hrec:PdqRec n lim (M++[[]]))
    (h0:a=0 ∨ ∀ k e f,a≤k→k < a+n→X[a - 1]? = some e→X[k]? = some f→below e f=true)
    (bal part:Bool) (Q:Ex→St→Prop) (m:Nat) (hint:Int) (hm:a≤m∧m < a+n) (hh:hint=0 ∨ hint=1)
    (p1:∃ p,(a≤p∧p < a+n)∧∀ h1 h2,below (X[p]'h1) (X[m]'h2)=true) (p2:∃ p,(a≤p∧p < a+n)∧∀ h1 h2,below (X[m]'h1) (X[p]'h2)=true)
    (hS:∀ m:Nat,SrtOn X a (a+n)→Q .ret { T:=[(0,O2 X),(1,I a),(2,I ((a:Int)+n)),(3,I lim),(4,fcE),(10,Bo bal),(11,Bo part),(12,I n),(13,I m),(80,Bo true)],loc:=[],M:=M })
    (hL:∀ (X3:List (Int×Int)) (mid:Nat) (bal part:Bool),a < mid→mid+1 < a+n→Seg X X3 a (a+n)→SrtOn X3 a (mid+1)→CutOn X3 a (mid+1) (a+n) →
      Q .normal { T:=[(0,O2 X3),(1,I (mid+1:Nat)),(2,I ((a:Int)+n)),(3,I lim),(4,fcE),(10,Bo bal),(11,Bo part)],loc:=[],M:=M })
    (hR:∀ (X3:List (Int×Int)) (mid:Nat) (bal part:Bool),a < mid→mid+1 < a+n→Seg X X3 a (a+n)→SrtOn X3 mid (a+n)→CutOn X3 a mid (a+n) →
      Q .normal { T:=[(0,O2 X3),(1,I a),(2,I mid),(3,I lim),(4,fcE),(10,Bo bal),(11,Bo part)],loc:=[],M:=M }) :
    wp tb cB' { T:=[(0,O2 X),(1,I a),(2,I ((a:Int)+n)),(3,I lim),(4,fcE),(10,Bo bal),(11,Bo part),(12,I n),(13,I m),(14,I hint)],loc:=[],M:=M } Q:=by
  obtain ⟨t,ht,hE2⟩:=ev_partialIns X hX (by omega) a n (by omega) (by omega) hab (M++[[]])
  have e2:=ev_lim hE2
  have hml:m < X.length:=by omega
  have hD:=pdq_D X hX hn hl a n m lim h13 h21 hab hm M hrec h0 p1 p2 bal part Q hL hR
  have key:∀ (hq:a=0 ∨ ∃ a0,∃ h:a0 < X.length,a=a0+1∧cmpE X[a0] X[m] < 0),True:=fun _=>trivial
  have hq:a=0 ∨ ∃ a0,∃ h:a0 < X.length,a=a0+1∧cmpE X[a0] X[m] < 0:=by
    rcases h0 with h0 | h0
    · exact .inl h0
    · by_cases ha:a=0
      · exact .inl ha
      · refine .inr ⟨a - 1,by omega,by omega,?_⟩
        have:=h0 m X[a - 1] X[m] hm.1 hm.2 (List.getElem?_eq_getElem (by omega)) (List.getElem?_eq_getElem hml)
        rw [← cmpE_below] at this
        exact of_decide_eq_true this
  clear key
  have hto:X.take X.length=X:=List.take_of_length_le (Nat.le_refl _)
  rcases hq with ha | ⟨a0,ha0,ha,hcm⟩
  · have g1:¬ (0:Int) < (a:Int):=by omega
    have g1':¬ 0 < a:=by omega
    clear ha
    rcases hh with rfl | rfl
    · cases bal <;> cases part
      all_goals
        repeat (first|refine wp_as ?_|refine wp_ss ?_|refine wr (by simp [hml,g1,g1'];with_reducible rfl) ?_|refine wq (by simp [hml,g1,g1'];with_reducible rfl) ?_|refine wt (by simpa [hml,g1,g1']) ?_|refine wf (by simpa [hml,g1,g1']) ?_|refine xt (by simpa [hml,g1,g1']) ?_|refine xf (by simpa [hml,g1,g1']) ?_|refine wp_bs ?_|refine wp_b ?_|refine wp_sr ?_|refine wp_sx ?_|refine wp_ret' ?_|refine wp_skip' ?_|refine wp_exit' ?_)
        exact hD
    · cases bal <;> cases part
      rotate_right 1
      · cases t with
        | true =>
          have hs:=hS m (srt_adj hn (ht rfl))
          repeat (first|refine wp_as ?_|refine wp_ss ?_|refine wr (by simp [e2,hml,g1,g1'];with_reducible rfl) ?_|refine wq (by simp [e2,hml,g1,g1'];with_reducible rfl) ?_|refine wt (by simpa [e2,hml,g1,g1']) ?_|refine wf (by simpa [e2,hml,g1,g1']) ?_|refine xt (by simpa [e2,hml,g1,g1']) ?_|refine xf (by simpa [e2,hml,g1,g1']) ?_|refine wp_bs ?_|refine wp_b ?_|refine wp_sr ?_|refine wp_sx ?_|refine wp_ret' ?_|refine wp_skip' ?_|refine wp_exit' ?_)
          exact hs
        | false =>
          repeat (first|refine wp_as ?_|refine wp_ss ?_|refine wr (by simp [e2,hml,g1,g1'];with_reducible rfl) ?_|refine wq (by simp [e2,hml,g1,g1'];with_reducible rfl) ?_|refine wt (by simpa [e2,hml,g1,g1']) ?_|refine wf (by simpa [e2,hml,g1,g1']) ?_|refine xt (by simpa [e2,hml,g1,g1']) ?_|refine xf (by simpa [e2,hml,g1,g1']) ?_|refine wp_bs ?_|refine wp_b ?_|refine wp_sr ?_|refine wp_sx ?_|refine wp_ret' ?_|refine wp_skip' ?_|refine wp_exit' ?_)
          exact hD
      all_goals
        repeat (first|refine wp_as ?_|refine wp_ss ?_|refine wr (by simp [hml,g1,g1'];with_reducible rfl) ?_|refine wq (by simp [hml,g1,g1'];with_reducible rfl) ?_|refine wt (by simpa [hml,g1,g1']) ?_|refine wf (by simpa [hml,g1,g1']) ?_|refine xt (by simpa [hml,g1,g1']) ?_|refine xf (by simpa [hml,g1,g1']) ?_|refine wp_bs ?_|refine wp_b ?_|refine wp_sr ?_|refine wp_sx ?_|refine wp_ret' ?_|refine wp_skip' ?_|refine wp_exit' ?_)
        exact hD
  · have e3:=fun M=>ev_lim (ev_cmpE (hX _ (List.getElem_mem ha0)) (hX _ (List.getElem_mem hml)) M)
    have w1:IntKind.i64.wrap ((a:Int) - 1)=(a0:Int):=by rw [wrap64 (by omega) (by omega)];omega
    have g1:(0:Int) < (a:Int):=by omega
    have g1':0 < a:=by omega
    rcases hh with rfl | rfl
    · cases bal <;> cases part
      all_goals
        repeat (first|refine wp_as ?_|refine wp_ss ?_|refine wr (by simp [e3,hml,ha0,w1,g1,g1',hcm];with_reducible rfl) ?_|refine wq (by simp [e3,hml,ha0,w1,g1,g1',hcm];with_reducible rfl) ?_|refine wt (by simpa [e3,hml,ha0,w1,g1,g1',hcm]) ?_|refine wf (by simpa [e3,hml,ha0,w1,g1,g1',hcm]) ?_|refine xt (by simpa [e3,hml,ha0,w1,g1,g1',hcm]) ?_|refine xf (by simpa [e3,hml,ha0,w1,g1,g1',hcm]) ?_|refine wp_bs ?_|refine wp_b ?_|refine wp_sr ?_|refine wp_sx ?_|refine wp_ret' ?_|refine wp_skip' ?_|refine wp_exit' ?_)
        exact hD
    · cases bal <;> cases part
      rotate_right 1
      · cases t with
        | true =>
          have hs:=hS m (srt_adj hn (ht rfl))
          repeat (first|refine wp_as ?_|refine wp_ss ?_|refine wr (by simp [e2,e3,hml,ha0,w1,g1,g1',hcm];with_reducible rfl) ?_|refine wq (by simp [e2,e3,hml,ha0,w1,g1,g1',hcm];with_reducible rfl) ?_|refine wt (by simpa [e2,e3,hml,ha0,w1,g1,g1',hcm]) ?_|refine wf (by simpa [e2,e3,hml,ha0,w1,g1,g1',hcm]) ?_|refine xt (by simpa [e2,e3,hml,ha0,w1,g1,g1',hcm]) ?_|refine xf (by simpa [e2,e3,hml,ha0,w1,g1,g1',hcm]) ?_|refine wp_bs ?_|refine wp_b ?_|refine wp_sr ?_|refine wp_sx ?_|refine wp_ret' ?_|refine wp_skip' ?_|refine wp_exit' ?_)
          exact hs
        | false =>
          repeat (first|refine wp_as ?_|refine wp_ss ?_|refine wr (by simp [e2,e3,hml,ha0,w1,g1,g1',hcm];with_reducible rfl) ?_|refine wq (by simp [e2,e3,hml,ha0,w1,g1,g1',hcm];with_reducible rfl) ?_|refine wt (by simpa [e2,e3,hml,ha0,w1,g1,g1',hcm]) ?_|refine wf (by simpa [e2,e3,hml,ha0,w1,g1,g1',hcm]) ?_|refine xt (by simpa [e2,e3,hml,ha0,w1,g1,g1',hcm]) ?_|refine xf (by simpa [e2,e3,hml,ha0,w1,g1,g1',hcm]) ?_|refine wp_bs ?_|refine wp_b ?_|refine wp_sr ?_|refine wp_sx ?_|refine wp_ret' ?_|refine wp_skip' ?_|refine wp_exit' ?_)
          exact hD
      all_goals
        repeat (first|refine wp_as ?_|refine wp_ss ?_|refine wr (by simp [e3,hml,ha0,w1,g1,g1',hcm];with_reducible rfl) ?_|refine wq (by simp [e3,hml,ha0,w1,g1,g1',hcm];with_reducible rfl) ?_|refine wt (by simpa [e3,hml,ha0,w1,g1,g1',hcm]) ?_|refine wf (by simpa [e3,hml,ha0,w1,g1,g1',hcm]) ?_|refine xt (by simpa [e3,hml,ha0,w1,g1,g1',hcm]) ?_|refine xf (by simpa [e3,hml,ha0,w1,g1,g1',hcm]) ?_|refine wp_bs ?_|refine wp_b ?_|refine wp_sr ?_|refine wp_sx ?_|refine wp_ret' ?_|refine wp_skip' ?_|refine wp_exit' ?_)
        exact hD
set_option maxHeartbeats 2000000 in
theorem pdq_B (X:List (Int×Int)) (hX:∀ x ∈ X,DE x) (hn:X.Nodup) (hl:X.length≤700000) (a n lim:Nat) (h13:13≤n) (h21:n≤21) (hab:a+n≤X.length) (M:List Boxes) (hrec:PdqRec n lim (M++[[]]))
    (h0:a=0 ∨ ∀ k e f,a≤k→k < a+n→X[a - 1]? = some e→X[k]? = some f→below e f=true)
    (bal part:Bool) (Q:Ex→St→Prop) (f:Bool)
    (hS:∀ m:Nat,SrtOn X a (a+n)→Q .ret { T:=[(0,O2 X),(1,I a),(2,I ((a:Int)+n)),(3,I lim),(4,fcE),(10,Bo bal),(11,Bo part),(12,I n),(13,I m),(80,Bo true)],loc:=[],M:=M })
    (hL:∀ (X3:List (Int×Int)) (mid:Nat) (bal part:Bool),a < mid→mid+1 < a+n→Seg X X3 a (a+n)→SrtOn X3 a (mid+1)→CutOn X3 a (mid+1) (a+n) →
      Q .normal { T:=[(0,O2 X3),(1,I (mid+1:Nat)),(2,I ((a:Int)+n)),(3,I lim),(4,fcE),(10,Bo bal),(11,Bo part)],loc:=[],M:=M })
    (hR:∀ (X3:List (Int×Int)) (mid:Nat) (bal part:Bool),a < mid→mid+1 < a+n→Seg X X3 a (a+n)→SrtOn X3 mid (a+n)→CutOn X3 a mid (a+n) →
      Q .normal { T:=[(0,O2 X3),(1,I a),(2,I mid),(3,I lim),(4,fcE),(10,Bo bal),(11,Bo part)],loc:=[],M:=M }) :
    wp tb cB { T:=[(0,O2 X),(1,I a),(2,I ((a:Int)+n)),(3,I lim),(4,fcE),(10,Bo bal),(11,Bo part),(12,I n)]++(if f then [(39,Bo false)] else []),loc:=[],M:=M } Q:=by
  obtain ⟨m,hint,hm,hh,p1,p2,hE⟩:=ev_choosePivot X hX hn (by omega) a n hab h13 (by omega) (M++[[]])
  have e1:=ev_lim hE
  have hB:=pdq_B' X hX hn hl a n lim h13 h21 hab M hrec h0 bal part Q m hint hm hh p1 p2 hS hL hR
  cases f
  all_goals
    simp only [if_true,if_false,Bool.false_eq_true,List.append_nil,List.cons_append,List.nil_append]
    refine wr (by simp [e1];with_reducible rfl) ?_
    exact hB
end Go.Idl
namespace Go.Idl
open Go
def pot (n:Nat):Nat:=if n≤12 then 0 else (n - 11) / 2
theorem pdq_call {X:List (Int×Int)} {a n lim:Nat} {M:List Boxes}
    (h:wp tb (.loop z285l31) { T:=[(0,O2 X),(1,I a),(2,I ((a:Int)+n)),(3,I lim),(4,fcE),(10,Bo true),(11,Bo true)],loc:=[],M:=M }
      (fun ex st=>ex=.ret∧∃ X':List (Int×Int),Seg X X' a (a+n)∧SrtOn X' a (a+n)∧finish zi285 [0] st=some ⟨.tup [],[O2 X'],M,[]⟩)) :
    ∃ X':List (Int×Int),Seg X X' a (a+n)∧SrtOn X' a (a+n)∧Ev tb zl285 [0] [O2 X,I a,I ((a:Int)+n),I lim,fcE] M ⟨.tup [],[O2 X'],M,[]⟩:=by
  suffices hh:∃ r,(∃ X':List (Int×Int),Seg X X' a (a+n)∧SrtOn X' a (a+n)∧r=⟨.tup [],[O2 X'],M,[]⟩)∧Ev tb zl285 [0] [O2 X,I a,I ((a:Int)+n),I lim,fcE] M r by
    obtain ⟨r,⟨X',q1,q2,rfl⟩,q3⟩:=hh
    exact ⟨X',q1,q2,q3⟩
  refine call_ex zt285 rfl ?_
  repeat (first|refine wp_as ?_|refine wp_ss ?_|refine wr (by simp;with_reducible rfl) ?_|refine wq (by simp;with_reducible rfl) ?_|refine wt (by simpa) ?_|refine wf (by simpa) ?_|refine xt (by simpa) ?_|refine xf (by simpa) ?_|refine wp_bs ?_|refine wp_b ?_|refine wp_sr ?_|refine wp_sx ?_|refine wp_ret' ?_|refine wp_skip' ?_|refine wp_exit' ?_)
  refine wp_imp h ?_
  rintro ex st ⟨rfl,X',q1,q2,q3⟩
  exact ⟨.inr rfl,_,⟨X',q1,q2,rfl⟩,q3⟩
abbrev PdqPost (X:List (Int×Int)) (a n:Nat) (M:List Boxes) (ex:Ex) (st:St):Prop :=
  ex=.ret∧∃ X':List (Int×Int),Seg X X' a (a+n)∧SrtOn X' a (a+n)∧finish zi285 [0] st=some ⟨.tup [],[O2 X'],M,[]⟩
theorem pdq_few (n:Nat) (h12:n≤12) (X:List (Int×Int)) (a lim:Nat) (bal part:Bool) (M:List Boxes) (hX:∀ x ∈ X,DE x) (hnd:X.Nodup) (hl:X.length≤700000) (hab:a+n≤X.length) :
    wp tb (.loop z285l31) { T:=[(0,O2 X),(1,I a),(2,I ((a:Int)+n)),(3,I lim),(4,fcE),(10,Bo bal),(11,Bo part)],loc:=[],M:=M } (PdqPost X a n M):=by
  obtain ⟨X',hS,hs,hE⟩:=ins_part X hX hnd hl a n hab (M++[[]])
  have e1:=ev_lim hE
  have w00:(a:Int)+(n:Int) - a=n:=by omega
  have w0:IntKind.i64.wrap (n:Int)=(n:Int):=wrap64 (by omega) (by omega)
  have g1:(n:Int)≤12:=by omega
  refine wp_loop ?_
  repeat (first|refine wp_as ?_|refine wp_ss ?_|refine wr (by simp [w00,w0,g1,h12,e1];with_reducible rfl) ?_|refine wq (by simp [w00,w0,g1,h12,e1];with_reducible rfl) ?_|refine wt (by simpa [w00,w0,g1,h12,e1]) ?_|refine wf (by simpa [w00,w0,g1,h12,e1]) ?_|refine xt (by simpa [w00,w0,g1,h12,e1]) ?_|refine xf (by simpa [w00,w0,g1,h12,e1]) ?_|refine wp_bs ?_|refine wp_b ?_|refine wp_sr ?_|refine wp_sx ?_|refine wp_ret' ?_|refine wp_skip' ?_|refine wp_exit' ?_)
  refine ⟨rfl,X',hS,hs,?_⟩
  simp [zi285]
set_option maxHeartbeats 4000000 in
theorem pdq_main:∀ (N n:Nat),n≤N→n≤21→∀ (X:List (Int×Int)) (a lim:Nat) (bal part:Bool) (M:List Boxes),(∀ x ∈ X,DE x)→X.Nodup→X.length≤700000→a+n≤X.length→pot n≤lim→lim≤1000 →
    (a=0 ∨ ∀ k e f,a≤k→k < a+n→X[a - 1]? = some e→X[k]? = some f→below e f=true) →
    wp tb (.loop z285l31) { T:=[(0,O2 X),(1,I a),(2,I ((a:Int)+n)),(3,I lim),(4,fcE),(10,Bo bal),(11,Bo part)],loc:=[],M:=M } (PdqPost X a n M):=by
  intro N
  induction N with
  | zero =>
    intro n hn h21 X a lim bal part M hX hnd hl hab hpot hlim h0
    exact pdq_few n (by omega) X a lim bal part M hX hnd hl hab
  | succ N ih =>
    intro n hn h21 X a lim bal part M hX hnd hl hab hpot hlim h0
    by_cases h12:n≤12
    · exact pdq_few n h12 X a lim bal part M hX hnd hl hab
    have hp1:pot n=(n - 11) / 2:=by rw [pot,if_neg h12]
    have hlim1:1≤lim:=by omega
    have hpm:∀ n',n'+2≤n→pot n'≤lim - 1:=fun n' h=>by
      rw [pot];split <;> omega
    have hrec:∀ lim',lim - 1≤lim'→lim'≤1000→∀ M,PdqRec n lim' M:=fun lim' h1 h2 M n' a' X hn' hX hnd hl hab h0=>by
      obtain ⟨X',q1,q2,q3⟩:=pdq_call (ih n' (by omega) (by omega) X a' lim' true true M hX hnd hl hab (by have:=hpm n' hn';omega) h2 h0)
      exact ⟨X',q1,q2,ev_lim q3⟩
    have w00:(a:Int)+(n:Int) - a=n:=by omega
    have w0:IntKind.i64.wrap (n:Int)=(n:Int):=wrap64 (by omega) (by omega)
    have g1:¬ (n:Int)≤12:=by omega
    have g2:¬ (lim:Int)=0:=by omega
    have g2':¬ lim=0:=by omega
    have fin:∀ (X1:List (Int×Int)) (lim1:Nat),Seg X X1 a (a+n)→lim - 1≤lim1→lim1≤1000 →
        (∀ (X3:List (Int×Int)) (mid:Nat) (bal part:Bool),a < mid→mid+1 < a+n→Seg X1 X3 a (a+n)→SrtOn X3 a (mid+1)→CutOn X3 a (mid+1) (a+n) →
          wp tb (.loop z285l31) { T:=[(0,O2 X3),(1,I (mid+1:Nat)),(2,I ((a:Int)+n)),(3,I lim1),(4,fcE),(10,Bo bal),(11,Bo part)],loc:=[],M:=M } (PdqPost X a n M)) ∧
        (∀ (X3:List (Int×Int)) (mid:Nat) (bal part:Bool),a < mid→mid+1 < a+n→Seg X1 X3 a (a+n)→SrtOn X3 mid (a+n)→CutOn X3 a mid (a+n) →
          wp tb (.loop z285l31) { T:=[(0,O2 X3),(1,I a),(2,I mid),(3,I lim1),(4,fcE),(10,Bo bal),(11,Bo part)],loc:=[],M:=M } (PdqPost X a n M)):=by
      intro X1 lim1 hS1 hl1 hl2
      refine ⟨fun X3 mid bal part h1 h2 hS3 hs hc=>?_,fun X3 mid bal part h1 h2 hS3 hs hc=>?_⟩
      · have hS:=hS1.trans hS3
        have hle:=hS.len
        obtain ⟨n2,hn2⟩:∃ n2,a+n=mid+1+n2:=⟨a+n - (mid+1),by omega⟩
        have:=ih n2 (by omega) (by omega) X3 (mid+1) lim1 bal part M (fun x hx=>hX x (hS.perm.mem_iff.1 hx)) (hS.nodup hnd) (by omega) (by omega) (by have:=hpm n2 (by omega);omega) hl2 (.inr fun k e f k1 k2 he hf=>by
          rw [Nat.add_sub_cancel] at he
          exact hc mid k e f (by omega) (by omega) k1 (by omega) he hf)
        rw [show ((mid+1:Nat):Int)+(n2:Int)=(a:Int)+n by omega] at this
        refine wp_imp this ?_
        rintro ex st ⟨rfl,X',q1,q2,q3⟩
        rw [← hn2] at q1 q2
        exact ⟨rfl,X',hS.trans (q1.mono (by omega) (Nat.le_refl _)),srt_join (hS.nodup hnd) hs hc q1 q2,q3⟩
      · have hS:=hS1.trans hS3
        have hle:=hS.len
        obtain ⟨n1,hn1⟩:∃ n1,mid=a+n1:=⟨mid - a,by omega⟩
        have:=ih n1 (by omega) (by omega) X3 a lim1 bal part M (fun x hx=>hX x (hS.perm.mem_iff.1 hx)) (hS.nodup hnd) (by omega) (by omega) (by have:=hpm n1 (by omega);omega) hl2 (by
          rcases h0 with h0 | h0
          · exact .inl h0
          · by_cases ha:a=0
            · exact .inl ha
            · refine .inr fun k e f k1 k2 he hf=>?_
              rw [hS.out (a - 1) (by omega)] at he
              obtain ⟨k',hk',hf'⟩:=hS.back hnd ⟨k1,by omega⟩ hf
              exact h0 k' e f hk'.1 hk'.2 he hf')
        rw [show (a:Int)+(n1:Int)=(mid:Int) by omega] at this
        refine wp_imp this ?_
        rintro ex st ⟨rfl,X',q1,q2,q3⟩
        rw [← hn1] at q1 q2
        exact ⟨rfl,X',hS.trans (q1.mono (Nat.le_refl _) (by omega)),srt_join' (hS.nodup hnd) hs hc q1 q2,q3⟩
    cases bal with
    | true =>
      obtain ⟨fL,fR⟩:=fin X lim (Seg.refl X a (a+n)) (by omega) hlim
      refine wp_loop ?_
      iterate 10 (first|refine wp_as ?_|refine wp_ss ?_|refine wr (by simp [w00,w0,g1,h12,g2,g2'];with_reducible rfl) ?_|refine wq (by simp [w00,w0,g1,h12,g2,g2'];with_reducible rfl) ?_|refine wt (by simpa [w00,w0,g1,h12,g2,g2']) ?_|refine wf (by simpa [w00,w0,g1,h12,g2,g2']) ?_|refine xt (by simpa [w00,w0,g1,h12,g2,g2']) ?_|refine xf (by simpa [w00,w0,g1,h12,g2,g2']) ?_|refine wp_bs ?_|refine wp_b ?_|refine wp_sr ?_|refine wp_sx ?_|refine wp_ret' ?_|refine wp_skip' ?_|refine wp_exit' ?_)
      refine wp_skip' ?_
      refine pdq_B X hX hnd hl a n lim (by omega) h21 hab M (hrec lim (by omega) hlim _) h0 true part _ true ?_ ?_ ?_
      · intro m hs
        refine ⟨rfl,X,Seg.refl X a (a+n),hs,?_⟩
        simp [zi285]
      · intro X3 mid bal part h1 h2 h3 h4 h5
        exact fL X3 mid bal part h1 h2 h3 h4 h5
      · intro X3 mid bal part h1 h2 h3 h4 h5
        exact fR X3 mid bal part h1 h2 h3 h4 h5
    | false =>
      obtain ⟨X1,hS1,hE⟩:=ev_breakPatterns X (by omega) a n (by omega) h21 hab (M++[[]])
      have e1:=ev_lim hE
      obtain ⟨lim1,hlim2⟩:∃ lim1,lim=lim1+1:=⟨lim - 1,by omega⟩
      have hle:=hS1.len
      have w1:IntKind.i64.wrap ((lim:Int) - 1)=(lim1:Int):=by rw [wrap64 (by omega) (by omega)];omega
      obtain ⟨fL,fR⟩:=fin X1 lim1 hS1 (by omega) (by omega)
      refine wp_loop ?_
      iterate 12 (first|refine wp_as ?_|refine wp_ss ?_|refine wr (by simp [w00,w0,g1,h12,g2,g2',e1,w1];with_reducible rfl) ?_|refine wq (by simp [w00,w0,g1,h12,g2,g2',e1,w1];with_reducible rfl) ?_|refine wt (by simpa [w00,w0,g1,h12,g2,g2',e1,w1]) ?_|refine wf (by simpa [w00,w0,g1,h12,g2,g2',e1,w1]) ?_|refine xt (by simpa [w00,w0,g1,h12,g2,g2',e1,w1]) ?_|refine xf (by simpa [w00,w0,g1,h12,g2,g2',e1,w1]) ?_|refine wp_bs ?_|refine wp_b ?_|refine wp_sr ?_|refine wp_sx ?_|refine wp_ret' ?_|refine wp_skip' ?_|refine wp_exit' ?_)
      refine pdq_B X1 (fun x hx=>hX x (hS1.perm.mem_iff.1 hx)) (hS1.nodup hnd) (by omega) a n lim1 (by omega) h21 (by omega) M (hrec lim1 (by omega) (by omega) _) ?_ false part _ false ?_ ?_ ?_
      · rcases h0 with h0 | h0
        · exact .inl h0
        · by_cases ha:a=0
          · exact .inl ha
          · refine .inr fun k e f k1 k2 he hf=>?_
            rw [hS1.out (a - 1) (by omega)] at he
            obtain ⟨k',hk',hf'⟩:=hS1.back hnd ⟨k1,k2⟩ hf
            exact h0 k' e f hk'.1 hk'.2 he hf'
      · intro m hs
        refine ⟨rfl,X1,hS1,hs,?_⟩
        simp [zi285]
      · intro X3 mid bal part h1 h2 h3 h4 h5
        exact fL X3 mid bal part h1 h2 h3 h4 h5
      · intro X3 mid bal part h1 h2 h3 h4 h5
        exact fR X3 mid bal part h1 h2 h3 h4 h5
theorem ev_SortFunc_ex (X:List (Int×Int)) (hX:∀ x ∈ X,DE x) (hn:X.Nodup) (h21:X.length≤21) (M:List Boxes) :
    ∃ X':List (Int×Int),X'.Perm X∧SrtOn X' 0 X.length∧Ev tb zl272 [0] [O2 X,fcE] M ⟨.tup [],[O2 X'],M,[]⟩:=by
  have hb:lenB X.length≤1000:=by unfold lenB;(repeat' split) <;> omega
  have hp:pot X.length≤lenB X.length:=by
    unfold pot lenB
    (repeat' split) <;> omega
  obtain ⟨X',hS,hs,hE⟩:=pdq_call (pdq_main X.length X.length (Nat.le_refl _) h21 X 0 (lenB X.length) true true (M++[[]]) hX hn (by omega) (by omega) hp hb (.inl rfl))
  have e1:=ev_lim hE
  have e2:=ev_lim (ev_Lenk X.length h21)
  have w1:=@wrapU X.length (by omega)
  rw [show ((0:Nat):Int)=0 from rfl,Int.zero_add] at e1
  rw [Nat.zero_add] at hs
  refine ⟨X',hS.perm,hs,?_⟩
  refine call_of_wp zt272 rfl ?_
  repeat (first|refine wp_as ?_|refine wp_ss ?_|refine wr (by simp [e1,e2,w1];with_reducible rfl) ?_|refine wq (by simp [e1,e2,w1];with_reducible rfl) ?_|refine wt (by simpa [e1,e2,w1]) ?_|refine wf (by simpa [e1,e2,w1]) ?_|refine xt (by simpa [e1,e2,w1]) ?_|refine xf (by simpa [e1,e2,w1]) ?_|refine wp_bs ?_|refine wp_b ?_|refine wp_sr ?_|refine wp_sx ?_|refine wp_ret' ?_|refine wp_skip' ?_|refine wp_exit' ?_)
  simp [zi272]
def srtE (X:List (Int×Int)):List (Int×Int):=srtC below [] X
theorem srtE_pw {X:List (Int×Int)} (hn:X.Nodup):PW (srtE X):=by
  obtain ⟨h1,h2⟩:=srtC_ok (lt:=below) below_ht (fun a b h=>below_asymm h) X [] .nil
  have hnd:(srtE X).Nodup:=h2.nodup_iff.2 (by simpa using hn)
  refine (h1.and hnd).imp fun {a b} h=>?_
  rcases below_total h.2 with q | q
  · exact q
  · rw [h.1] at q;cases q
theorem srtE_perm (X:List (Int×Int)):(srtE X).Perm X:=by
  have:=srtC_perm below X []
  rwa [List.nil_append] at this
theorem ev_SortFunc (X:List (Int×Int)) (hX:∀ x ∈ X,DE x) (hn:X.Nodup) (h21:X.length≤21) (M:List Boxes) :
    Ev tb zl272 [0] [O2 X,fcE] M ⟨.tup [],[O2 (srtE X)],M,[]⟩:=by
  obtain ⟨X',hp,hs,hE⟩:=ev_SortFunc_ex X hX hn h21 M
  have hl:=hp.length_eq
  have hpw:PW X':=List.pairwise_iff_getElem.2 fun i j hi hj hij=>hs i j _ _ (by omega) hij (by omega) (List.getElem?_eq_getElem hi) (List.getElem?_eq_getElem hj)
  have:X'=srtE X:=pw_ext hpw (srtE_pw hn) fun e=>by rw [hp.mem_iff,(srtE_perm X).mem_iff]
  rw [← this];exact hE
end Go.Idl
namespace Go.Idl
open Go
def decAt (o:List Int) (i:Nat):List Int:=o.set i (o.getD i 0 - 1)
def subs:List (Int×Int)→List Int→List (Int×Int)→List (List (Int×Int))
  | [],left,chosen=>if left.all (fun x=>decide (x=0)) then [chosen] else []
  | e::r,left,chosen =>
    (if 0 < left.getD e.1.toNat 0∧0 < left.getD e.2.toNat 0 then subs r (decAt (decAt left e.1.toNat) e.2.toNat) (chosen++[e]) else [])++subs r left chosen
theorem ev_Clone2 (e0:Nat) (es:List (Int×Int)) (c:Bool) (he0:e0=2 ∨ es=[]) (hl:es.length≤1000000):Ev tb zl261 [] [.lst e0 (eds es) c] [] ⟨O2 es,[],[],[]⟩:=by
  rcases he0 with rfl | rfl
  · refine call_of_wp zt261 rfl ?_
    refine wp_rs (by simp;rfl) (by simp;rfl) ?_
    refine wp_nil2 (b:=es.isEmpty) (by simp [z261r1];rfl) (by simp) ?_ ?_ ?_ (ex:=.ret) (st':={ T:=[(2,.own 2 (eds es))],loc:=[],M:=[] })
    · refine wp_ct (t:=false) (by simp) (by simp) fun _=>wp_ss ?_
      refine wp_rs (by simp [show es.length≤274877906944 by omega];rfl) (by simp;rfl) ?_
      refine wp_ret' ?_
      simp
    · intro he
      have:es=[]:=by simpa using he
      subst this
      refine wp_ct (t:=true) (by simp) (fun _=>wp_as ?_) (by simp)
      refine wp_rs (by simp;rfl) (by simp;rfl) ?_
      refine wp_sr ?_
      simp
    · simp [zi261]
  · refine call_of_wp zt261 rfl ?_
    refine wp_rs (by simp;rfl) (by simp;rfl) ?_
    refine wp_nil2 (b:=([]:List (Int×Int)).isEmpty) (by simp [z261r1];rfl) (by simp) ?_ ?_ ?_ (ex:=.ret) (st':={ T:=[(2,.own 2 (eds ([]:List (Int×Int))))],loc:=[],M:=[] })
    · refine wp_ct (t:=false) (by simp) (by simp) fun _=>wp_ss ?_
      refine wp_rs (by simp;rfl) (by simp;rfl) ?_
      refine wp_ret' ?_
      simp
    · intro he
      refine wp_ct (t:=true) (by simp) (fun _=>wp_as ?_) (by simp)
      refine wp_rs (by simp;rfl) (by simp;rfl) ?_
      refine wp_sr ?_
      simp
    · simp [zi261]
theorem ev_clone2 (e0:Nat) (es:List (Int×Int)) (c:Bool) (he0:e0=2 ∨ es=[]) (hl:es.length≤1000000):Ev tb zl204 [] [.lst e0 (eds es) c] [] ⟨O2 es,[],[],[]⟩:=by
  have e1:=ev_lim (ev_Clone2 e0 es c he0 hl)
  have e2:=ev_lim (ev_Clip2 es)
  refine call_of_wp zt204 rfl ?_
  repeat (first|refine wp_as ?_|refine wp_ss ?_|refine wr (by simp [e1,e2];with_reducible rfl) ?_|refine wq (by simp [e1,e2];with_reducible rfl) ?_|refine wt (by simpa [e1,e2]) ?_|refine wf (by simpa [e1,e2]) ?_|refine xt (by simpa [e1,e2]) ?_|refine xf (by simpa [e1,e2]) ?_|refine wp_bs ?_|refine wp_b ?_|refine wp_sr ?_|refine wp_sx ?_|refine wp_ret' ?_|refine wp_skip' ?_|refine wp_exit' ?_)
  simp [zi204]
end Go.Idl
namespace Go.Idl
open Go
theorem ev_made (n:Int) (e0:Nat) (es:List (Int×Int)) (c:Bool) (he0:e0=2 ∨ es=[]) (hX:∀ x ∈ es,DE x) (hn:es.Nodup) (h21:es.length≤21) :
    Ev tb zl214 [] [I n,.lst e0 (eds es) c] [] ⟨OG n (srtE es),[],[],[]⟩:=by
  have e1:=ev_lim (ev_clone2 e0 es c he0 (by omega))
  have e2:=ev_lim (ev_SortFunc es hX hn h21 [[[I 0,Z]]])
  refine call_of_wp zt214 rfl ?_
  repeat (first|refine wp_as ?_|refine wp_ss ?_|refine wr (by simp [e1,e2];with_reducible rfl) ?_|refine wq (by simp [e1,e2];with_reducible rfl) ?_|refine wt (by simpa [e1,e2]) ?_|refine wf (by simpa [e1,e2]) ?_|refine xt (by simpa [e1,e2]) ?_|refine xf (by simpa [e1,e2]) ?_|refine wp_bs ?_|refine wp_b ?_|refine wp_sr ?_|refine wp_sx ?_|refine wp_ret' ?_|refine wp_skip' ?_|refine wp_exit' ?_)
  simp [zi214]
end Go.Idl
namespace Go.Idl
open Go
theorem idx_spec (p:Int→Bool):∀ (xs:List Int) (i:Nat),(idx p i xs=-1∧∀ x ∈ xs,p x=false) ∨ ∃ k:Nat,∃ h:k < xs.length,idx p i xs=((i+k:Nat):Int)∧p xs[k]=true∧∀ x ∈ xs.take k,p x=false
  | [],i=>.inl ⟨rfl,by simp⟩
  | x::r,i=>by
    cases hp:p x with
    | true=>exact .inr ⟨0,by simp,by simp [idx,hp],hp,by simp⟩
    | false =>
      rcases idx_spec p r (i+1) with ⟨h1,h2⟩ | ⟨k,hk,h1,h2,h3⟩
      · refine .inl ⟨?_,fun y hy=>?_⟩
        · simp only [idx,hp,Bool.false_eq_true,if_false];exact h1
        · rcases List.mem_cons.1 hy with rfl | hy
          · exact hp
          · exact h2 y hy
      · refine .inr ⟨k+1,by simp;exact hk,?_,h2,fun y hy=>?_⟩
        · simp only [idx,hp,Bool.false_eq_true,if_false]
          rw [show ((i:Int)+1)=((i+1:Nat):Int) by omega,h1];omega
        · rw [List.take_succ_cons] at hy
          rcases List.mem_cons.1 hy with rfl | hy
          · exact hp
          · exact h3 y hy
end Go.Idl
namespace Go.Idl
open Go
theorem idxB_all (n:Nat):idxB n (-1)=(List.range n).map fun v:Nat=>(v:Int):=by
  rw [idxB]
  refine List.filter_eq_self.2 fun x hx=>?_
  obtain ⟨v,_,rfl⟩:=List.mem_map.1 hx
  simp
end Go.Idl
namespace Go.Idl
open Go
def relax (o:List Int) (e:Int×Int):List Int:=(o.set e.1.toNat (min (o.getD e.1.toNat 0) (o.getD e.2.toNat 0))).set e.2.toNat (min (o.getD e.1.toNat 0) (o.getD e.2.toNat 0))
def rnds (es:List (Int×Int)):Nat→List Int→List Int
  | 0,o=>o
  | m+1,o=>rnds es m (es.foldl relax o)
theorem relax_len (o:List Int) (e:Int×Int):(relax o e).length=o.length:=by simp [relax]
theorem foldr_len (es:List (Int×Int)):∀ o:List Int,(es.foldl relax o).length=o.length:=by
  induction es with
  | nil=>intro o;rfl
  | cons e es ih=>intro o;rw [List.foldl_cons,ih,relax_len]
theorem rnds_len (es:List (Int×Int)):∀ (m:Nat) (o:List Int),(rnds es m o).length=o.length
  | 0,_=>rfl
  | m+1,o=>by rw [rnds,rnds_len es m,foldr_len]
theorem ro_in (n:Nat) (e0:Nat) (es:List (Int×Int)) (c:Bool) (he0:e0=2 ∨ es=[]) (hes:∀ e ∈ es,0≤e.1∧e.1 < n∧0≤e.2∧e.2 < n) (hel:es.length≤1000) (k:Nat):∀ (m j:Nat) (out:List Int) (B:Boxes),j+m=es.length→out.length=n →
    wp tb (.loop z172l10) { T:=[(1,.bptr 0 0 0),(3,O out),(11,I n),(12,I k),(15,.lst e0 (eds es) c),(16,I es.length),(17,I j)],loc:=[I n,.lst e0 (eds es) c]::B,M:=[] }
      (fun ex st=>ex=.exit 2∧∃ B',st={ T:=[(1,.bptr 0 0 0),(3,O ((es.drop j).foldl relax out)),(11,I n),(12,I k),(15,.lst e0 (eds es) c),(16,I es.length),(17,I es.length),(18,Bo false)],loc:=[I n,.lst e0 (eds es) c]::B',M:=[] }):=by
  intro m
  induction m with
  | zero =>
    intro j out B hj hl
    have h3:j=es.length:=hj
    subst h3
    refine wp_loop ?_
    repeat (first|apply wp_as|apply wp_ss|refine wr (by simp;with_reducible rfl) ?_|refine wq (by simp;with_reducible rfl) ?_|refine wt (by simpa) ?_|refine wf (by simpa) ?_|refine xt (by simpa) ?_|refine xf (by simpa) ?_|apply wp_bs|apply wp_b|refine wp_sr ?_|refine wp_sx ?_|refine wp_ret' ?_|refine wp_skip' ?_|refine wp_exit' ?_)
    exact ⟨rfl,_,by simp;rfl⟩
  | succ m ih =>
    intro j out B hj hl
    have hj2:j < es.length:=by omega
    have he2:e0=2:=by
      rcases he0 with h | h
      · exact h
      · rw [h] at hj2;cases hj2
    subst he2
    have hd:es.drop j=es[j]::es.drop (j+1):=List.drop_eq_getElem_cons hj2
    have hb:=hes _ (List.getElem_mem hj2)
    obtain ⟨⟨x,y⟩,hx⟩:∃ e,e=es[j]:=⟨_,rfl⟩
    rw [← hx] at hb
    simp only at hb
    obtain ⟨a,rfl⟩:=Int.eq_ofNat_of_zero_le hb.1
    obtain ⟨b,rfl⟩:=Int.eq_ofNat_of_zero_le hb.2.2.1
    have hx2:=hx.symm
    have han:a < n:=by omega
    have hbn:b < n:=by omega
    have ha:a < out.length:=by omega
    have hbl:b < out.length:=by omega
    have w1:IntKind.i64.wrap ((j:Int)+1)=((j+1:Nat):Int):=wrapS (by omega)
    have hmn:(if out[b] < out[a] then out[b] else out[a])=min out[a] out[b]:=by split <;> omega
    have hn:=ih (j+1) (relax out ((a:Int),(b:Int))) (B++[[I a,I b]]) (by omega) (by rw [relax_len,hl])
    have ga:out.getD a 0=out[a]:=by rw [List.getD_eq_getElem?_getD,List.getElem?_eq_getElem ha];rfl
    have gb:out.getD b 0=out[b]:=by rw [List.getD_eq_getElem?_getD,List.getElem?_eq_getElem hbl];rfl
    have hr:relax out ((a:Int),(b:Int))=(out.set a (min out[a] out[b])).set b (min out[a] out[b]):=by
      simp only [relax,Int.toNat_natCast,ga,gb]
    rw [hd,← hx,List.foldl_cons]
    rw [hr] at hn ⊢
    refine wp_loop ?_
    repeat (first|apply wp_as|apply wp_ss|refine wr (by simp [hj2,hx2,ha,hbl,hl,hmn,han,hbn];with_reducible rfl) ?_|refine wq (by simp [hj2,hx2,ha,hbl,hl,hmn,han,hbn];with_reducible rfl) ?_|refine wt (by simpa [hj2,hx2,ha,hbl,hl,hmn,han,hbn]) ?_|refine wf (by simpa [hj2,hx2,ha,hbl,hl,hmn,han,hbn]) ?_|refine xt (by simpa [hj2,hx2,ha,hbl,hl,hmn,han,hbn]) ?_|refine xf (by simpa [hj2,hx2,ha,hbl,hl,hmn,han,hbn]) ?_|apply wp_bs|apply wp_b|refine wp_sr ?_|refine wp_sx ?_|refine wp_ret' ?_|refine wp_skip' ?_|refine wp_exit' ?_)
    refine wp_ra (by simp [ha,hbl,hl,han,hbn];with_reducible rfl) (by simp;with_reducible rfl) ?_ ?_
    · intro p hp
      simp only [List.mem_cons,List.not_mem_nil,or_false] at hp
      subst hp
      exact ⟨_,by simp [ha,hbl,hl,han,hbn];with_reducible rfl,by simp⟩
    repeat (first|apply wp_as|apply wp_ss|refine wr (by simp [w1];with_reducible rfl) ?_|refine wq (by simp [w1];with_reducible rfl) ?_|refine wt (by simpa [w1]) ?_|refine wf (by simpa [w1]) ?_|refine xt (by simpa [w1]) ?_|refine xf (by simpa [w1]) ?_|apply wp_bs|apply wp_b|refine wp_sr ?_|refine wp_sx ?_|refine wp_ret' ?_|refine wp_skip' ?_|refine wp_exit' ?_)
    exact hn
theorem ro_out (n:Nat) (e0:Nat) (es:List (Int×Int)) (c:Bool) (he0:e0=2 ∨ es=[]) (hes:∀ e ∈ es,0≤e.1∧e.1 < n∧0≤e.2∧e.2 < n) (hel:es.length≤1000) (hn7:n≤7):∀ (m k:Nat) (out:List Int) (B:Boxes),k+m=n→out.length=n →
    wp tb (.loop z172l12) { T:=[(1,.bptr 0 0 0),(3,O out),(11,I n),(12,I k)],loc:=[I n,.lst e0 (eds es) c]::B,M:=[] }
      (fun ex st=>ex=.exit 0∧∃ B',st={ T:=[(1,.bptr 0 0 0),(3,O (rnds es m out)),(11,I n),(12,I n),(13,Bo false)],loc:=[I n,.lst e0 (eds es) c]::B',M:=[] }):=by
  intro m
  induction m with
  | zero =>
    intro k out B hk hl
    have h3:k=n:=hk
    subst h3
    refine wp_loop ?_
    repeat (first|apply wp_as|apply wp_ss|refine wr (by simp;with_reducible rfl) ?_|refine wq (by simp;with_reducible rfl) ?_|refine wt (by simpa) ?_|refine wf (by simpa) ?_|refine xt (by simpa) ?_|refine xf (by simpa) ?_|apply wp_bs|apply wp_b|refine wp_sr ?_|refine wp_sx ?_|refine wp_ret' ?_|refine wp_skip' ?_|refine wp_exit' ?_)
    exact ⟨rfl,_,rfl⟩
  | succ m ih =>
    intro k out B hk hl
    have hk2:k < n:=by omega
    have w1:IntKind.i64.wrap ((k:Int)+1)=((k+1:Nat):Int):=wrapS (by omega)
    refine wp_loop ?_
    repeat (first|apply wp_as|apply wp_ss|refine wr (by simp [hk2];with_reducible rfl) ?_|refine wq (by simp [hk2];with_reducible rfl) ?_|refine wt (by simpa [hk2]) ?_|refine wf (by simpa [hk2]) ?_|refine xt (by simpa [hk2]) ?_|refine xf (by simpa [hk2]) ?_|apply wp_bs|apply wp_b|refine wp_sr ?_|refine wp_sx ?_|refine wp_ret' ?_|refine wp_skip' ?_|refine wp_exit' ?_)
    refine wp_imp (ro_in n e0 es c he0 hes hel k es.length 0 out B (by omega) hl) ?_
    rintro ex st ⟨rfl,B',rfl⟩
    simp only [if_true,List.drop_zero]
    repeat (first|apply wp_as|apply wp_ss|refine wr (by simp [w1];with_reducible rfl) ?_|refine wq (by simp [w1];with_reducible rfl) ?_|refine wt (by simpa [w1]) ?_|refine wf (by simpa [w1]) ?_|refine xt (by simpa [w1]) ?_|refine xf (by simpa [w1]) ?_|apply wp_bs|apply wp_b|refine wp_sr ?_|refine wp_sx ?_|refine wp_ret' ?_|refine wp_skip' ?_|refine wp_exit' ?_)
    exact ih (k+1) (es.foldl relax out) B' (by omega) (by rw [foldr_len,hl])
theorem ev_roots (n:Nat) (hn1:1≤n) (hn7:n≤7) (e0:Nat) (es:List (Int×Int)) (c:Bool) (he0:e0=2 ∨ es=[]) (hes:∀ e ∈ es,0≤e.1∧e.1 < n∧0≤e.2∧e.2 < n) (hel:es.length≤1000) :
    Ev tb zl172 [] [.agg [I n,.lst e0 (eds es) c]] [] ⟨O (rnds es n (idxB n (-1))),[],[],[]⟩:=by
  have e1:=ev_lim (ev_indices n (-1) (by omega))
  have hil:(idxB n (-1)).length=n:=by rw [idxB_all];simp
  have loop:=ro_out n e0 es c he0 hes hel hn7 n 0 (idxB n (-1)) [] (by omega) hil
  rw [show ((0:Nat):Int)=0 from rfl] at loop
  generalize idxB n (-1)=L at *
  cases L with
  | nil=>simp at hil;omega
  | cons x L =>
    simp only [nlI] at e1
    refine call_of_wp zt172 rfl ?_
    repeat (first|apply wp_as|apply wp_ss|refine wr (by simp [e1];with_reducible rfl) ?_|refine wq (by simp [e1];with_reducible rfl) ?_|refine wt (by simpa [e1]) ?_|refine wf (by simpa [e1]) ?_|refine xt (by simpa [e1]) ?_|refine xf (by simpa [e1]) ?_|apply wp_bs|apply wp_b|refine wp_sr ?_|refine wp_sx ?_|refine wp_ret' ?_|refine wp_skip' ?_|refine wp_exit' ?_)
    refine wp_imp loop ?_
    rintro ex st ⟨rfl,B',rfl⟩
    simp only [if_true]
    repeat (first|apply wp_as|apply wp_ss|refine wr (by simp;with_reducible rfl) ?_|refine wq (by simp;with_reducible rfl) ?_|refine wt (by simpa) ?_|refine wf (by simpa) ?_|refine xt (by simpa) ?_|refine xf (by simpa) ?_|apply wp_bs|apply wp_b|refine wp_sr ?_|refine wp_sx ?_|refine wp_ret' ?_|refine wp_skip' ?_|refine wp_exit' ?_)
    simp [zi172]
end Go.Idl
namespace Go.Idl
open Go
def insE (e:Int×Int):List (Int×Int)→List (Int×Int)
  | []=>[e]
  | x::r=>if below x e then x::insE e r else e::x::r
theorem insE_at (e:Int×Int) (es:List (Int×Int)) (k:Nat) (hk:k≤es.length) (h:∀ x ∈ es.take k,below x e=true) (hs:∀ h:k < es.length,below es[k] e=false) :
    insE e es=es.take k++[e]++es.drop k:=by
  induction es generalizing k with
  | nil=>simp at hk;subst hk;rfl
  | cons x r ih =>
    cases k with
    | zero =>
      have:=hs (by simp)
      simp only [List.getElem_cons_zero] at this
      simp [insE,this]
    | succ k =>
      have h1:=h x (by simp)
      rw [insE,if_pos h1,ih k (by simpa using hk) (fun y hy=>h y (by simp [hy])) (fun hh=>hs (by simpa using hh))]
      simp
theorem insE_len (e:Int×Int) (es:List (Int×Int)):(insE e es).length=es.length+1:=by
  induction es with
  | nil=>rfl
  | cons x r ih=>rw [insE];split <;> simp [ih]
theorem insE_mem (e x:Int×Int) (es:List (Int×Int)):x ∈ insE e es ↔ x=e ∨ x ∈ es:=by
  induction es with
  | nil=>simp [insE]
  | cons y r ih =>
    rw [insE];split
    · rw [List.mem_cons,ih,List.mem_cons]
      constructor
      · rintro (h | h | h) <;> simp [h]
      · rintro (h | h | h) <;> simp [h]
    · simp
theorem ev_addEdge (n:Int) (es:List (Int×Int)) (c:Bool) (a b:Int) (hl:es.length≤1000000) :
    Ev tb zl335 [] [Gr n es c,I a,I b] [] ⟨OG n (insE (min a b,max a b) es),[],[],[]⟩:=by
  obtain ⟨e,he⟩:∃ e:Int×Int,e=(min a b,max a b):=⟨_,rfl⟩
  have he1:(if b < a then b else a)=e.1:=by rw [he];simp only;split <;> omega
  have he2:(if a < b then b else a)=e.2:=by rw [he];simp only;split <;> omega
  rw [← he]
  have loop:∀ (m k:Nat),k+m=es.length→(∀ x ∈ es.take k,below x e=true)→wp tb (.loop z335l5) { T:=[(3,.bptr 0 0 0),(6,.bptr 0 1 0),(7,.bptr 0 2 0),(8,I k)],loc:=[[I n,L2 es c],[I 0,Z],[I e.1,I e.2]],M:=[] }
      (fun ex st=>ex=.exit 0∧∃ k:Nat,(k≤es.length∧(∀ x ∈ es.take k,below x e=true)∧(∀ h:k < es.length,below es[k] e=false)) ∧
        st={ T:=[(3,.bptr 0 0 0),(6,.bptr 0 1 0),(7,.bptr 0 2 0),(8,I k),(30,Bo false)],loc:=[[I n,L2 es c],[I 0,Z],[I e.1,I e.2]],M:=[] }):=by
    intro m
    induction m with
    | zero =>
      intro k hk hb
      have h3:k=es.length:=hk
      subst h3
      refine wp_loop ?_
      repeat (first|refine wp_as ?_|refine wp_ss ?_|refine wr (by simp;with_reducible rfl) ?_|refine wq (by simp;with_reducible rfl) ?_|refine wt (by simpa) ?_|refine wf (by simpa) ?_|refine xt (by simpa) ?_|refine xf (by simpa) ?_|refine wp_bs ?_|refine wp_b ?_|refine wp_sr ?_|refine wp_sx ?_|refine wp_ret' ?_|refine wp_skip' ?_|refine wp_exit' ?_)
      exact ⟨rfl,es.length,⟨Nat.le_refl _,hb,fun h=>absurd h (by omega)⟩,rfl⟩
    | succ m ih =>
      intro k hk hb
      have hi2:k < es.length:=by omega
      have w2:IntKind.i64.wrap ((k:Int)+1)=((k+1:Nat):Int):=wrapS (by omega)
      have e1:=ev_lim (ev_edgeBelow es[k] e)
      cases hq:below es[k] e with
      | true =>
        refine wp_loop ?_
        repeat (first|refine wp_as ?_|refine wp_ss ?_|refine wr (by simp [hi2,e1,hq,w2];with_reducible rfl) ?_|refine wq (by simp [hi2,e1,hq,w2];with_reducible rfl) ?_|refine wt (by simpa [hi2,e1,hq,w2]) ?_|refine wf (by simpa [hi2,e1,hq,w2]) ?_|refine xt (by simpa [hi2,e1,hq,w2]) ?_|refine xf (by simpa [hi2,e1,hq,w2]) ?_|refine wp_bs ?_|refine wp_b ?_|refine wp_sr ?_|refine wp_sx ?_|refine wp_ret' ?_|refine wp_skip' ?_|refine wp_exit' ?_)
        refine ih (k+1) (by omega) fun x hx=>?_
        rw [List.take_succ_eq_append_getElem hi2] at hx
        rcases List.mem_append.1 hx with hx | hx
        · exact hb x hx
        · simp at hx;subst hx;exact hq
      | false =>
        refine wp_loop ?_
        repeat (first|refine wp_as ?_|refine wp_ss ?_|refine wr (by simp [hi2,e1,hq];with_reducible rfl) ?_|refine wq (by simp [hi2,e1,hq];with_reducible rfl) ?_|refine wt (by simpa [hi2,e1,hq]) ?_|refine wf (by simpa [hi2,e1,hq]) ?_|refine xt (by simpa [hi2,e1,hq]) ?_|refine xf (by simpa [hi2,e1,hq]) ?_|refine wp_bs ?_|refine wp_b ?_|refine wp_sr ?_|refine wp_sx ?_|refine wp_ret' ?_|refine wp_skip' ?_|refine wp_exit' ?_)
        exact ⟨rfl,k,⟨by omega,hb,fun _=>hq⟩,rfl⟩
  refine call_of_wp zt335 rfl ?_
  repeat (first|refine wp_as ?_|refine wp_ss ?_|refine wr (by simp [he1,he2];with_reducible rfl) ?_|refine wq (by simp [he1,he2];with_reducible rfl) ?_|refine wt (by simpa [he1,he2]) ?_|refine wf (by simpa [he1,he2]) ?_|refine xt (by simpa [he1,he2]) ?_|refine xf (by simpa [he1,he2]) ?_|refine wp_bs ?_|refine wp_b ?_|refine wp_sr ?_|refine wp_sx ?_|refine wp_ret' ?_|refine wp_skip' ?_|refine wp_exit' ?_)
  refine wp_imp (loop es.length 0 (by simp) (by simp)) ?_
  rintro ex st ⟨rfl,k,⟨hk,hb,hs⟩,rfl⟩
  rw [insE_at e es k hk hb hs]
  try simp only [if_true]
  have hT:es.take es.length=es:=List.take_of_length_le (Nat.le_refl _)
  have hT2:(es.drop k).take (es.length - k)=es.drop k:=List.take_of_length_le (by simp)
  have hT3:(es.take k).take k=es.take k:=by rw [List.take_take,Nat.min_self]
  have hl1:k≤274877906943:=by omega
  have hl2:k≤274877906944:=by omega
  have hl3:k+1≤274877906944:=by omega
  have hl4:k+1+(es.length - k)≤274877906944:=by omega
  have hT4:(es.take k++[(e.1,e.2)]).take (k+1)=es.take k++[(e.1,e.2)]:=List.take_of_length_le (by simp;omega)
  have hmin:min k es.length=k:=by omega
  repeat (first|refine wp_as ?_|refine wp_ss ?_|refine wr (by simp [hk,hT,hT2,hT3,hl1,hl2,hl3,hl4,hT4,hmin];with_reducible rfl) ?_|refine wq (by simp [hk,hT,hT2,hT3,hl1,hl2,hl3,hl4,hT4,hmin];with_reducible rfl) ?_|refine wt (by simpa [hk,hT,hT2,hT3,hl1,hl2,hl3,hl4,hT4,hmin]) ?_|refine wf (by simpa [hk,hT,hT2,hT3,hl1,hl2,hl3,hl4,hT4,hmin]) ?_|refine xt (by simpa [hk,hT,hT2,hT3,hl1,hl2,hl3,hl4,hT4,hmin]) ?_|refine xf (by simpa [hk,hT,hT2,hT3,hl1,hl2,hl3,hl4,hT4,hmin]) ?_|refine wp_bs ?_|refine wp_b ?_|refine wp_sr ?_|refine wp_sx ?_|refine wp_ret' ?_|refine wp_skip' ?_|refine wp_exit' ?_)
  refine wp_ra (by simp [hk,hT,hT2,hT3,hl1,hl2,hl3,hl4,hT4,hmin];with_reducible rfl) (by simp;with_reducible rfl) ?_ ?_
  · intro p hp
    simp only [List.mem_cons,List.not_mem_nil,or_false] at hp
    rcases hp with rfl | rfl | rfl | rfl | rfl | rfl | rfl | rfl | rfl | rfl | rfl
    · exact ⟨_,by simp [hk,hT,hT2,hT3,hl1,hl2,hl3,hl4,hT4,hmin];with_reducible rfl,by simp⟩
    · exact ⟨_,by simp [hk,hT,hT2,hT3,hl1,hl2,hl3,hl4,hT4,hmin];with_reducible rfl,by simp⟩
    · exact ⟨_,by simp [hk,hT,hT2,hT3,hl1,hl2,hl3,hl4,hT4,hmin];with_reducible rfl,by simp⟩
    · exact ⟨_,by simp [hk,hT,hT2,hT3,hl1,hl2,hl3,hl4,hT4,hmin];with_reducible rfl,by simp⟩
    · exact ⟨_,by simp [hk,hT,hT2,hT3,hl1,hl2,hl3,hl4,hT4,hmin];with_reducible rfl,by simp⟩
    · exact ⟨_,by simp [hk,hT,hT2,hT3,hl1,hl2,hl3,hl4,hT4,hmin];with_reducible rfl,by simp⟩
    · exact ⟨_,by simp [hk,hT,hT2,hT3,hl1,hl2,hl3,hl4,hT4,hmin];with_reducible rfl,by simp⟩
    · exact ⟨_,by simp [hk,hT,hT2,hT3,hl1,hl2,hl3,hl4,hT4,hmin];with_reducible rfl,by simp⟩
    · exact ⟨_,by simp [hk,hT,hT2,hT3,hl1,hl2,hl3,hl4,hT4,hmin];with_reducible rfl,by simp⟩
    · exact ⟨_,by simp [hk,hT,hT2,hT3,hl1,hl2,hl3,hl4,hT4,hmin];with_reducible rfl,by simp⟩
    · exact ⟨_,by simp [hk,hT,hT2,hT3,hl1,hl2,hl3,hl4,hT4,hmin];with_reducible rfl,by simp⟩
  repeat (first|refine wp_as ?_|refine wp_ss ?_|refine wr (by simp;with_reducible rfl) ?_|refine wq (by simp;with_reducible rfl) ?_|refine wt (by simpa) ?_|refine wf (by simpa) ?_|refine xt (by simpa) ?_|refine xf (by simpa) ?_|refine wp_bs ?_|refine wp_b ?_|refine wp_sr ?_|refine wp_sx ?_|refine wp_ret' ?_|refine wp_skip' ?_|refine wp_exit' ?_)
  simp [zi335]
end Go.Idl
namespace Go.Idl
open Go
theorem ev_Index (xs:List Int) (c:Bool) (y:Int) (hl:xs.length≤1000000) :
    Ev tb zl74 [] [L xs c,I y] [] ⟨I (idx (fun x=>decide (y=x)) 0 xs),[],[],[]⟩:=by
  have loop:∀ (m i:Nat),i+m=xs.length→wp tb (.loop z74l7) { T:=[(0,L xs c),(1,I y),(7,I xs.length),(8,I i)],loc:=[],M:=[] }
      (fun ex st=>(ex=.exit 0∧idx (fun x=>decide (y=x)) i (xs.drop i)=-1∧st={ T:=[(0,L xs c),(1,I y),(7,I xs.length),(8,I xs.length),(9,Bo false)],loc:=[],M:=[] }) ∨
        ex=.ret∧st={ T:=[(4,I (idx (fun x=>decide (y=x)) i (xs.drop i)))],loc:=[],M:=[] }):=by
    intro m
    induction m with
    | zero =>
      intro i hi
      obtain ⟨h1,h2⟩:=drop_end hi
      have h3:i=xs.length:=hi
      subst h3
      refine wp_loop ?_
      repeat (first|refine wp_as ?_|refine wp_ss ?_|refine wr (by simp;with_reducible rfl) ?_|refine wq (by simp;with_reducible rfl) ?_|refine wt (by simpa) ?_|refine wf (by simpa) ?_|refine xt (by simpa) ?_|refine xf (by simpa) ?_|refine wp_bs ?_|refine wp_b ?_|refine wp_sr ?_|refine wp_sx ?_|refine wp_ret' ?_|refine wp_skip' ?_|refine wp_exit' ?_)
      exact .inl ⟨rfl,by rw [h2];rfl,rfl⟩
    | succ m ih =>
      intro i hi
      obtain ⟨hi2,h2,h3⟩:=drop_get hi
      have w2:IntKind.i64.wrap ((i:Int)+1)=((i+1:Nat):Int):=wrapS (by omega)
      rw [h2]
      by_cases he:y=xs[i]
      · refine wp_loop ?_
        repeat (first|refine wp_as ?_|refine wp_ss ?_|refine wr (by simp [hi2,he];with_reducible rfl) ?_|refine wq (by simp [hi2,he];with_reducible rfl) ?_|refine wt (by simpa [hi2,he]) ?_|refine wf (by simpa [hi2,he]) ?_|refine xt (by simpa [hi2,he]) ?_|refine xf (by simpa [hi2,he]) ?_|refine wp_bs ?_|refine wp_b ?_|refine wp_sr ?_|refine wp_sx ?_|refine wp_ret' ?_|refine wp_skip' ?_|refine wp_exit' ?_)
        exact .inr ⟨rfl,by simp [idx,he]⟩
      · refine wp_loop ?_
        repeat (first|refine wp_as ?_|refine wp_ss ?_|refine wr (by simp [hi2,he,w2];with_reducible rfl) ?_|refine wq (by simp [hi2,he,w2];with_reducible rfl) ?_|refine wt (by simpa [hi2,he,w2]) ?_|refine wf (by simpa [hi2,he,w2]) ?_|refine xt (by simpa [hi2,he,w2]) ?_|refine xf (by simpa [hi2,he,w2]) ?_|refine wp_bs ?_|refine wp_b ?_|refine wp_sr ?_|refine wp_sx ?_|refine wp_ret' ?_|refine wp_skip' ?_|refine wp_exit' ?_)
        have:=ih (i+1) (by omega)
        simp only [idx,he,decide_false,Bool.false_eq_true,if_false] at this ⊢
        exact this
  refine call_of_wp zt74 rfl ?_
  repeat (first|refine wp_as ?_|refine wp_ss ?_|refine wr (by simp;with_reducible rfl) ?_|refine wq (by simp;with_reducible rfl) ?_|refine wt (by simpa) ?_|refine wf (by simpa) ?_|refine xt (by simpa) ?_|refine xf (by simpa) ?_|refine wp_bs ?_|refine wp_b ?_|refine wp_sr ?_|refine wp_sx ?_|refine wp_ret' ?_|refine wp_skip' ?_|refine wp_exit' ?_)
  refine wp_imp (loop xs.length 0 (by omega)) ?_
  rintro ex st (⟨rfl,h,rfl⟩ | ⟨rfl,rfl⟩)
  · simp only [if_true]
    simp only [List.drop_zero] at h
    repeat (first|refine wp_as ?_|refine wp_ss ?_|refine wr (by simp;with_reducible rfl) ?_|refine wq (by simp;with_reducible rfl) ?_|refine wt (by simpa) ?_|refine wf (by simpa) ?_|refine xt (by simpa) ?_|refine xf (by simpa) ?_|refine wp_bs ?_|refine wp_b ?_|refine wp_sr ?_|refine wp_sx ?_|refine wp_ret' ?_|refine wp_skip' ?_|refine wp_exit' ?_)
    simp [zi74]
    exact h.symm
  · simp [zi74]
def least1:Int→List Int→Int
  | m,[]=>m
  | m,x::r=>least1 (min m x) r
theorem ev_Min (x:Int) (r:List Int) (c:Bool) (hl:r.length≤1000000) :
    Ev tb zl75 [] [L (x::r) c] [] ⟨I (least1 x r),[],[],[]⟩:=by
  have loop:∀ (m i:Nat) (y:Int),i+m=r.length→wp tb (.loop z75l8) { T:=[(0,L (x::r) c),(3,I y),(4,I (i+1))],loc:=[],M:=[] }
      (fun ex st=>ex=.exit 0∧st={ T:=[(0,L (x::r) c),(3,I (least1 y (r.drop i))),(4,I (r.length+1)),(15,Bo false)],loc:=[],M:=[] }):=by
    intro m
    induction m with
    | zero =>
      intro i y hi
      obtain ⟨h1,h2⟩:=drop_end hi
      have h3:i=r.length:=hi
      subst h3
      refine wp_loop ?_
      repeat (first|refine wp_as ?_|refine wp_ss ?_|refine wr (by simp;with_reducible rfl) ?_|refine wq (by simp;with_reducible rfl) ?_|refine wt (by simpa) ?_|refine wf (by simpa) ?_|refine xt (by simpa) ?_|refine xf (by simpa) ?_|refine wp_bs ?_|refine wp_b ?_|refine wp_sr ?_|refine wp_sx ?_|refine wp_ret' ?_|refine wp_skip' ?_|refine wp_exit' ?_)
      exact ⟨rfl,by simp [least1]⟩
    | succ m ih =>
      intro i y hi
      obtain ⟨hi2,h2,h3⟩:=drop_get hi
      have w2:IntKind.i64.wrap ((i:Int)+1+1)=(i:Int)+1+1:=wrap64 (by omega) (by omega)
      have h4:(i:Int) < r.length:=by omega
      rw [h2]
      refine wp_loop ?_
      repeat (first|refine wp_as ?_|refine wp_ss ?_|refine wr (by simp [hi2,w2,h4];with_reducible rfl) ?_|refine wq (by simp [hi2,w2,h4];with_reducible rfl) ?_|refine wt (by simpa [hi2,w2,h4]) ?_|refine wf (by simpa [hi2,w2,h4]) ?_|refine xt (by simpa [hi2,w2,h4]) ?_|refine xf (by simpa [hi2,w2,h4]) ?_|refine wp_bs ?_|refine wp_b ?_|refine wp_sr ?_|refine wp_sx ?_|refine wp_ret' ?_|refine wp_skip' ?_|refine wp_exit' ?_)
      have:=ih (i+1) (min y r[i]) (by omega)
      simp only [min_if,min_if',least1] at this ⊢
      exact this
  have h0:¬ ((r.length:Int)+1 < 1):=by omega
  refine call_of_wp zt75 rfl ?_
  repeat (first|refine wp_as ?_|refine wp_ss ?_|refine wr (by simp [h0];with_reducible rfl) ?_|refine wq (by simp [h0];with_reducible rfl) ?_|refine wt (by simpa [h0]) ?_|refine wf (by simpa [h0]) ?_|refine xt (by simpa [h0]) ?_|refine xf (by simpa [h0]) ?_|refine wp_bs ?_|refine wp_b ?_|refine wp_sr ?_|refine wp_sx ?_|refine wp_ret' ?_|refine wp_skip' ?_|refine wp_exit' ?_)
  have:=loop r.length 0 x (by omega)
  simp at this
  refine wp_imp this ?_
  rintro ex st ⟨rfl,rfl⟩
  simp only [if_true]
  repeat (first|refine wp_as ?_|refine wp_ss ?_|refine wr (by simp;with_reducible rfl) ?_|refine wq (by simp;with_reducible rfl) ?_|refine wt (by simpa) ?_|refine wf (by simpa) ?_|refine xt (by simpa) ?_|refine xf (by simpa) ?_|refine wp_bs ?_|refine wp_b ?_|refine wp_sr ?_|refine wp_sx ?_|refine wp_ret' ?_|refine wp_skip' ?_|refine wp_exit' ?_)
  simp [zi75]
theorem least1_ge:∀ (r:List Int) (m b:Int),(b≤least1 m r) ↔ b≤m∧∀ x ∈ r,b≤x
  | [],m,b=>by simp [least1]
  | x::r,m,b=>by
    rw [least1,least1_ge r]
    constructor
    · rintro ⟨h1,h2⟩
      exact ⟨by omega,by intro y hy;rcases List.mem_cons.1 hy with rfl | hy;omega;exact h2 y hy⟩
    · rintro ⟨h1,h2⟩
      have:=h2 x (by simp)
      exact ⟨by omega,fun y hy=>h2 y (by simp [hy])⟩
def asc0 (s:List Int):List Int:=(fall s).reverse
def overT (s:List Int) (i:Nat):Int:=((asc0 s).take (i+1)).sum - ((i:Int)+1) * i / 2
def over (s:List Int):List Int:=mapR s.length (overT s)
end Go.Idl
namespace Go.Idl
open Go
theorem sum01 (r:List Int) (h:∀ x ∈ r,0≤x∧x≤1):0≤r.sum∧r.sum≤r.length:=by
  induction r with
  | nil=>simp
  | cons x xs ih =>
    have h1:=h x (by simp)
    have h2:=ih fun y hy=>h y (by simp [hy])
    simp only [List.sum_cons,List.length_cons];omega
end Go.Idl
namespace Go.Idl
open Go
theorem ev_hasInt (xs:List Int) (c:Bool) (y:Int) (hl:xs.length≤1000000) :
    Ev tb zl131 [] [L xs c,I y] [] ⟨Bo (decide (y ∈ xs)),[],[],[]⟩:=by
  have loop:∀ (m i:Nat),i+m=xs.length→wp tb (.loop z131l6) { T:=[(0,L xs c),(1,I y),(5,I i)],loc:=[],M:=[] }
      (fun ex st=>(ex=.exit 0∧y ∉ xs.drop i∧st={ T:=[(0,L xs c),(1,I y),(5,I xs.length),(9,Bo false)],loc:=[],M:=[] }) ∨
        ex=.ret∧y ∈ xs.drop i∧st={ T:=[(4,Bo true)],loc:=[],M:=[] }):=by
    intro m
    induction m with
    | zero =>
      intro i hi
      obtain ⟨h1,h2⟩:=drop_end hi
      have h3:i=xs.length:=hi
      subst h3
      refine wp_loop ?_
      repeat (first|refine wp_as ?_|refine wp_ss ?_|refine wr (by simp;with_reducible rfl) ?_|refine wq (by simp;with_reducible rfl) ?_|refine wt (by simpa) ?_|refine wf (by simpa) ?_|refine xt (by simpa) ?_|refine xf (by simpa) ?_|refine wp_bs ?_|refine wp_b ?_|refine wp_sr ?_|refine wp_sx ?_|refine wp_ret' ?_|refine wp_skip' ?_|refine wp_exit' ?_)
      exact .inl ⟨rfl,by rw [h2];simp,rfl⟩
    | succ m ih =>
      intro i hi
      obtain ⟨hi2,h2,h3⟩:=drop_get hi
      have w2:IntKind.i64.wrap ((i:Int)+1)=((i+1:Nat):Int):=wrapS (by omega)
      rw [h2]
      by_cases he:xs[i]=y
      · refine wp_loop ?_
        repeat (first|refine wp_as ?_|refine wp_ss ?_|refine wr (by simp [hi2,he];with_reducible rfl) ?_|refine wq (by simp [hi2,he];with_reducible rfl) ?_|refine wt (by simpa [hi2,he]) ?_|refine wf (by simpa [hi2,he]) ?_|refine xt (by simpa [hi2,he]) ?_|refine xf (by simpa [hi2,he]) ?_|refine wp_bs ?_|refine wp_b ?_|refine wp_sr ?_|refine wp_sx ?_|refine wp_ret' ?_|refine wp_skip' ?_|refine wp_exit' ?_)
        exact .inr ⟨rfl,by simp [he],rfl⟩
      · refine wp_loop ?_
        repeat (first|refine wp_as ?_|refine wp_ss ?_|refine wr (by simp [hi2,he,w2];with_reducible rfl) ?_|refine wq (by simp [hi2,he,w2];with_reducible rfl) ?_|refine wt (by simpa [hi2,he,w2]) ?_|refine wf (by simpa [hi2,he,w2]) ?_|refine xt (by simpa [hi2,he,w2]) ?_|refine xf (by simpa [hi2,he,w2]) ?_|refine wp_bs ?_|refine wp_b ?_|refine wp_sr ?_|refine wp_sx ?_|refine wp_ret' ?_|refine wp_skip' ?_|refine wp_exit' ?_)
        refine wp_imp (ih (i+1) (by omega)) ?_
        rintro ex st (⟨rfl,h,rfl⟩ | ⟨rfl,h,rfl⟩)
        · exact .inl ⟨rfl,by rw [List.mem_cons];rintro (h' | h');exact he h'.symm;exact h h',rfl⟩
        · exact .inr ⟨rfl,List.mem_cons_of_mem _ h,rfl⟩
  refine call_of_wp zt131 rfl ?_
  repeat (first|refine wp_as ?_|refine wp_ss ?_|refine wr (by simp;with_reducible rfl) ?_|refine wq (by simp;with_reducible rfl) ?_|refine wt (by simpa) ?_|refine wf (by simpa) ?_|refine xt (by simpa) ?_|refine xf (by simpa) ?_|refine wp_bs ?_|refine wp_b ?_|refine wp_sr ?_|refine wp_sx ?_|refine wp_ret' ?_|refine wp_skip' ?_|refine wp_exit' ?_)
  refine wp_imp (loop xs.length 0 (by omega)) ?_
  rintro ex st (⟨rfl,h,rfl⟩ | ⟨rfl,h,rfl⟩)
  · simp only [if_true]
    simp only [List.drop_zero] at h
    repeat (first|refine wp_as ?_|refine wp_ss ?_|refine wr (by simp;with_reducible rfl) ?_|refine wq (by simp;with_reducible rfl) ?_|refine wt (by simpa) ?_|refine wf (by simpa) ?_|refine xt (by simpa) ?_|refine xf (by simpa) ?_|refine wp_bs ?_|refine wp_b ?_|refine wp_sr ?_|refine wp_sx ?_|refine wp_ret' ?_|refine wp_skip' ?_|refine wp_exit' ?_)
    simp [zi131,h]
  · simp only [List.drop_zero] at h
    simp [zi131,h]
theorem sub_len:∀ (A l:List Int),A.Nodup→(∀ x ∈ A,x ∈ l)→A.length≤l.length
  | [],l,_,_=>by simp
  | x::r,l,hd,h=>by
    have hd':=List.nodup_cons.1 hd
    have h1:=sub_len r (l.erase x) hd'.2 (fun y hy=>(List.mem_erase_of_ne (fun e=>hd'.1 (by rw [← e];exact hy))).2 (h y (by simp [hy])))
    have hx:=h x (by simp)
    rw [List.length_erase_of_mem hx] at h1
    have:=List.length_pos_of_mem hx
    simp only [List.length_cons];omega
end Go.Idl
namespace Go.Idl
open Go
def rI (N:Nat):List Int:=(List.range N).map fun v:Nat=>(v:Int)
theorem rI_len (N:Nat):(rI N).length=N:=by simp [rI]
theorem mem_rI {N:Nat} {x:Int}:x ∈ rI N ↔ 0≤x∧x < N:=by
  simp only [rI,List.mem_map,List.mem_range]
  exact ⟨fun ⟨v,h1,h2⟩=>by omega,fun h=>⟨x.toNat,by omega,by omega⟩⟩
theorem filter_len {α} (p:α→Bool) (l:List α):(l.filter p).length+(l.filter fun a=>!p a).length=l.length:=by
  induction l with
  | nil=>rfl
  | cons a l ih=>simp only [List.filter_cons];cases p a <;> simp <;> omega
def busy (rest gone:List Int) (v:Nat):Bool:=decide ((v:Int) ∈ rest) || decide ((v:Int) ∈ gone)
def freeV (rest gone:List Int):Nat→Nat→Nat
  | 0,v=>v
  | m+1,v=>if busy rest gone v then freeV rest gone m (v+1) else v
def ctree (N:Nat):List Int→List Int→List (Int×Int)→List (Int×Int)×List Int
  | [],gone,es=>(es,gone)
  | c::r,gone,es=>ctree N r (gone++[(freeV (c::r) gone N 0:Int)]) (insE (min (freeV (c::r) gone N 0:Int) c,max (freeV (c::r) gone N 0:Int) c) es)
def lasts (N:Nat) (gone:List Int):List Int:=(rI N).filter fun v=>!decide (v ∈ gone)
def codeT (code:List Int):List (Int×Int) :=
  let q:=ctree (code.length+2) code [] []
  let l:=lasts (code.length+2) q.2
  insE (min (l.getD 0 0) (l.getD 1 0),max (l.getD 0 0) (l.getD 1 0)) q.1
theorem freeV_ok (rest gone:List Int):∀ (m v w:Nat),v≤w→w < v+m→busy rest gone w=false→freeV rest gone m v < v+m∧busy rest gone (freeV rest gone m v)=false
  | 0,v,w,h1,h2,_=>by omega
  | m+1,v,w,h1,h2,h3=>by
    rw [freeV]
    cases hb:busy rest gone v with
    | false=>rw [if_neg (by simp)];exact ⟨by omega,hb⟩
    | true =>
      rw [if_pos rfl]
      have hne:w ≠ v:=by rintro rfl;rw [hb] at h3;cases h3
      have:=freeV_ok rest gone m (v+1) w (by omega) (by omega) h3
      exact ⟨by omega,this.2⟩
theorem rangeI_nodup (N:Nat):(rI N).Nodup:=by
  rw [rI,List.Nodup,List.pairwise_map]
  exact List.nodup_range.imp fun h e=>h (by omega)
theorem free_ex {N:Nat} {rest gone:List Int} (h:rest.length+gone.length < N):∃ w,w < N∧busy rest gone w=false:=by
  refine Classical.byContradiction fun hn=>?_
  have hall:∀ x ∈ rI N,x ∈ rest++gone:=fun x hx=>by
    have hx':=mem_rI.1 hx
    obtain ⟨v,rfl⟩:=Int.eq_ofNat_of_zero_le hx'.1
    have hv:v < N:=by omega
    have hb:busy rest gone v=true:=by
      cases hq:busy rest gone v with
      | true=>rfl
      | false=>exact absurd ⟨v,hv,hq⟩ hn
    simp only [busy,Bool.or_eq_true,decide_eq_true_eq] at hb
    exact List.mem_append.2 hb
  have:=sub_len _ _ (rangeI_nodup N) hall
  rw [rI_len,List.length_append] at this
  omega
theorem lasts_len {N:Nat} {gone:List Int} (h:gone.length+2≤N):2≤(lasts N gone).length:=by
  have h1:=sub_len ((rI N).filter fun v=>decide (v ∈ gone)) gone ((rangeI_nodup N).filter _) (fun x hx=>by simpa using (List.mem_filter.1 hx).2)
  have h2:=filter_len (fun v=>decide (v ∈ gone)) (rI N)
  rw [rI_len] at h2
  simp only [lasts]
  omega
structure Code7 (code:List Int):Prop where
  len:code.length≤5
  el:∀ x ∈ code,0≤x∧x < (code.length:Int)+2
theorem ct_in (code:List Int) (c:Bool) (N i:Nat) (left gone:List Int) (Bs:Boxes) (hN:N≤7) (hl:left.length=N) (hg:gone.length≤7) (hq:∀ v,v < N→(0 < left.getD v 0 ↔ (v:Int) ∈ code.drop i)):∀ (m v:Nat),v+m=N→(∃ w,v≤w∧w < N∧busy (code.drop i) gone w=false) →
    wp tb (.loop z341l15) { T:=[(0,L code c),(2,.bptr 0 0 0),(3,I N),(4,.bptr 0 1 0),(5,O left),(7,O gone),(8,I i),(9,I v)],loc:=Bs,M:=[] }
      (fun ex st=>ex=.exit 4∧st={ T:=[(0,L code c),(2,.bptr 0 0 0),(3,I N),(4,.bptr 0 1 0),(5,O left),(7,O gone),(8,I i),(9,I (freeV (code.drop i) gone m v)),(56,Bo false)],loc:=Bs,M:=[] }):=by
  intro m
  induction m with
  | zero=>intro v hv ⟨w,h1,h2,_⟩;omega
  | succ m ih =>
    intro v hv ⟨w,h1,h2,h3⟩
    have hv2:v < left.length:=by omega
    have hv3:v < N:=by omega
    have hvq:=hq v hv3
    have hgt:left.getD v 0=left[v]:=by simp [List.getD_eq_getElem?_getD,List.getElem?_eq_getElem hv2]
    rw [hgt] at hvq
    have w2:IntKind.i64.wrap ((v:Int)+1)=((v+1:Nat):Int):=wrapS (by omega)
    have e1:=fun cc=>ev_lim (ev_hasInt gone cc (v:Int) (by omega))
    have hgo:gone.take gone.length=gone:=List.take_of_length_le (Nat.le_refl _)
    rw [freeV]
    by_cases hl0:0 < left[v]
    · have hb:busy (code.drop i) gone v=true:=by simp only [busy,Bool.or_eq_true,decide_eq_true_eq];exact .inl (hvq.1 hl0)
      have hne:w ≠ v:=by rintro rfl;rw [hb] at h3;cases h3
      rw [hb,if_pos rfl]
      refine wp_loop ?_
      repeat (first|refine wp_as ?_|refine wp_ss ?_|refine wr (by simp [hv2,hl0,w2];with_reducible rfl) ?_|refine wq (by simp [hv2,hl0,w2];with_reducible rfl) ?_|refine wt (by simpa [hv2,hl0,w2]) ?_|refine wf (by simpa [hv2,hl0,w2]) ?_|refine xt (by simpa [hv2,hl0,w2]) ?_|refine xf (by simpa [hv2,hl0,w2]) ?_|refine wp_bs ?_|refine wp_b ?_|refine wp_sr ?_|refine wp_sx ?_|refine wp_ret' ?_|refine wp_skip' ?_|refine wp_exit' ?_)
      exact ih (v+1) (by omega) ⟨w,by omega,h2,h3⟩
    have hr:¬ (v:Int) ∈ code.drop i:=fun h=>hl0 (hvq.2 h)
    by_cases hgv:(v:Int) ∈ gone
    · have hb:busy (code.drop i) gone v=true:=by simp only [busy,Bool.or_eq_true,decide_eq_true_eq];exact .inr hgv
      have hne:w ≠ v:=by rintro rfl;rw [hb] at h3;cases h3
      rw [hb,if_pos rfl]
      refine wp_loop ?_
      repeat (first|refine wp_as ?_|refine wp_ss ?_|refine wr (by simp [hv2,hl0,w2,e1,hgv,hgo];with_reducible rfl) ?_|refine wq (by simp [hv2,hl0,w2,e1,hgv,hgo];with_reducible rfl) ?_|refine wt (by simpa [hv2,hl0,w2,e1,hgv,hgo]) ?_|refine wf (by simpa [hv2,hl0,w2,e1,hgv,hgo]) ?_|refine xt (by simpa [hv2,hl0,w2,e1,hgv,hgo]) ?_|refine xf (by simpa [hv2,hl0,w2,e1,hgv,hgo]) ?_|refine wp_bs ?_|refine wp_b ?_|refine wp_sr ?_|refine wp_sx ?_|refine wp_ret' ?_|refine wp_skip' ?_|refine wp_exit' ?_)
      exact ih (v+1) (by omega) ⟨w,by omega,h2,h3⟩
    · have hb:busy (code.drop i) gone v=false:=by simp only [busy,Bool.or_eq_false_iff,decide_eq_false_iff_not];exact ⟨hr,hgv⟩
      rw [hb,if_neg (by simp)]
      refine wp_loop ?_
      repeat (first|refine wp_as ?_|refine wp_ss ?_|refine wr (by simp [hv2,hl0,w2,e1,hgv,hgo];with_reducible rfl) ?_|refine wq (by simp [hv2,hl0,w2,e1,hgv,hgo];with_reducible rfl) ?_|refine wt (by simpa [hv2,hl0,w2,e1,hgv,hgo]) ?_|refine wf (by simpa [hv2,hl0,w2,e1,hgv,hgo]) ?_|refine xt (by simpa [hv2,hl0,w2,e1,hgv,hgo]) ?_|refine xf (by simpa [hv2,hl0,w2,e1,hgv,hgo]) ?_|refine wp_bs ?_|refine wp_b ?_|refine wp_sr ?_|refine wp_sx ?_|refine wp_ret' ?_|refine wp_skip' ?_|refine wp_exit' ?_)
      exact ⟨rfl,rfl⟩
theorem count_take_succ {xs:List Int} {i:Nat} (h:i < xs.length) (v:Int):(((xs.take (i+1)).count v:Nat):Int)=((xs.take i).count v:Nat)+(if xs[i]=v then 1 else 0):=by
  rw [List.take_succ_eq_append_getElem h,List.count_append,List.count_cons,List.count_nil]
  by_cases hq:xs[i]=v <;> simp [hq]
theorem count_drop_succ {xs:List Int} {i:Nat} (h:i < xs.length) (v:Int):(((xs.drop i).count v:Nat):Int)=((xs.drop (i+1)).count v:Nat)+(if xs[i]=v then 1 else 0):=by
  rw [List.drop_eq_getElem_cons h,List.count_cons]
  by_cases hq:xs[i]=v <;> simp [hq]
theorem getD_set {xs:List Int} {p v:Nat} {y:Int} (hv:v < xs.length):(xs.set p y).getD v 0=if p=v then y else xs.getD v 0:=by
  rw [List.getD_eq_getElem?_getD,List.getElem?_set]
  by_cases h:p=v
  · subst h;simp [hv]
  · simp [h,List.getD_eq_getElem?_getD]
theorem ct_left (code:List Int) (c:Bool) (hc:Code7 code) (Bs:Boxes):∀ (m i:Nat) (left:List Int),i+m=code.length→left.length=code.length+2→(∀ v,v < code.length+2→left.getD v 0=((code.take i).count (v:Int):Nat)) →
    wp tb (.loop z341l8) { T:=[(0,L code c),(2,.bptr 0 0 0),(3,I ((code.length:Int)+2)),(4,.bptr 0 1 0),(5,O left),(6,I i)],loc:=Bs,M:=[] }
      (fun ex st=>ex=.exit 0∧∃ left:List Int,(left.length=code.length+2∧∀ v,v < code.length+2→left.getD v 0=(code.count (v:Int):Nat))∧st={ T:=[(0,L code c),(2,.bptr 0 0 0),(3,I ((code.length:Int)+2)),(4,.bptr 0 1 0),(5,O left),(6,I code.length),(23,Bo false)],loc:=Bs,M:=[] }):=by
  intro m
  induction m with
  | zero =>
    intro i left hi hl hq
    have h3:i=code.length:=hi
    subst h3
    rw [List.take_length] at hq
    refine wp_loop ?_
    repeat (first|refine wp_as ?_|refine wp_ss ?_|refine wr (by simp;with_reducible rfl) ?_|refine wq (by simp;with_reducible rfl) ?_|refine wt (by simpa) ?_|refine wf (by simpa) ?_|refine xt (by simpa) ?_|refine xf (by simpa) ?_|refine wp_bs ?_|refine wp_b ?_|refine wp_sr ?_|refine wp_sx ?_|refine wp_ret' ?_|refine wp_skip' ?_|refine wp_exit' ?_)
    exact ⟨rfl,left,⟨hl,hq⟩,rfl⟩
  | succ m ih =>
    intro i left hi hl hq
    have hi2:i < code.length:=by omega
    have hel:=hc.el _ (List.getElem_mem hi2)
    obtain ⟨p,hp⟩:=Int.eq_ofNat_of_zero_le hel.1
    have hpl:p < left.length:=by omega
    have hgt:left.getD p 0=left[p]:=by simp [List.getD_eq_getElem?_getD,List.getElem?_eq_getElem hpl]
    have hqp:=hq p (by omega)
    rw [hgt] at hqp
    have hcl:=hc.len
    have hcb:(code.take i).count (p:Int)≤i:=Nat.le_trans List.count_le_length (by simp;omega)
    have w1:IntKind.i64.wrap (left[p]+1)=left[p]+1:=wrap64 (by omega) (by omega)
    have w2:IntKind.i64.wrap ((i:Int)+1)=((i+1:Nat):Int):=wrapS (by omega)
    have hn:=ih (i+1) (left.set p (left[p]+1)) (by omega) (by simpa using hl) fun v hv=>by
      rw [getD_set (by omega),count_take_succ hi2,← hq v hv,hp]
      by_cases hpv:p=v
      · subst hpv;simp only [if_true,hgt]
      · rw [if_neg hpv,if_neg (by omega)];omega
    refine wp_loop ?_
    repeat (first|refine wp_as ?_|refine wp_ss ?_|refine wr (by simp [hi2,hp,hpl,w1,w2];with_reducible rfl) ?_|refine wq (by simp [hi2,hp,hpl,w1,w2];with_reducible rfl) ?_|refine wt (by simpa [hi2,hp,hpl,w1,w2]) ?_|refine wf (by simpa [hi2,hp,hpl,w1,w2]) ?_|refine xt (by simpa [hi2,hp,hpl,w1,w2]) ?_|refine xf (by simpa [hi2,hp,hpl,w1,w2]) ?_|refine wp_bs ?_|refine wp_b ?_|refine wp_sr ?_|refine wp_sx ?_|refine wp_ret' ?_|refine wp_skip' ?_|refine wp_exit' ?_)
    exact hn
theorem ct_out (code:List Int) (c:Bool) (hc:Code7 code):∀ (m i:Nat) (left gone:List Int) (es:List (Int×Int)),i+m=code.length→left.length=code.length+2→gone.length=i→es.length=i →
    (∀ v,v < code.length+2→left.getD v 0=((code.drop i).count (v:Int):Nat)) →
    wp tb (.loop z341l20) { T:=[(0,L code c),(2,.bptr 0 0 0),(3,I ((code.length:Int)+2)),(4,.bptr 0 1 0),(5,O left),(7,O gone),(8,I i)],loc:=[[I 0,Z],[I ((code.length:Int)+2),O2 es]],M:=[] }
      (fun ex st=>ex=.exit 2∧∃ left:List Int,st={ T:=[(0,L code c),(2,.bptr 0 0 0),(3,I ((code.length:Int)+2)),(4,.bptr 0 1 0),(5,O left),(7,O (ctree (code.length+2) (code.drop i) gone es).2),(8,I code.length),(44,Bo false)],loc:=[[I 0,Z],[I ((code.length:Int)+2),O2 (ctree (code.length+2) (code.drop i) gone es).1]],M:=[] }):=by
  intro m
  induction m with
  | zero =>
    intro i left gone es hi hl hg he hq
    have h3:i=code.length:=hi
    subst h3
    refine wp_loop ?_
    repeat (first|refine wp_as ?_|refine wp_ss ?_|refine wr (by simp;with_reducible rfl) ?_|refine wq (by simp;with_reducible rfl) ?_|refine wt (by simpa) ?_|refine wf (by simpa) ?_|refine xt (by simpa) ?_|refine xf (by simpa) ?_|refine wp_bs ?_|refine wp_b ?_|refine wp_sr ?_|refine wp_sx ?_|refine wp_ret' ?_|refine wp_skip' ?_|refine wp_exit' ?_)
    exact ⟨rfl,left,by simp [ctree]⟩
  | succ m ih =>
    intro i left gone es hi hl hg he hq
    have hi2:i < code.length:=by omega
    have hel:=hc.el _ (List.getElem_mem hi2)
    have hcl:=hc.len
    obtain ⟨p,hp⟩:=Int.eq_ofNat_of_zero_le hel.1
    have hpl:p < left.length:=by omega
    have hgt:left.getD p 0=left[p]:=by simp [List.getD_eq_getElem?_getD,List.getElem?_eq_getElem hpl]
    have hqp:=hq p (by omega)
    rw [hgt] at hqp
    have hcb:(code.drop i).count (p:Int)≤5:=Nat.le_trans List.count_le_length (by simp;omega)
    have w1:IntKind.i64.wrap (left[p] - 1)=left[p] - 1:=wrap64 (by omega) (by omega)
    have w2:IntKind.i64.wrap ((i:Int)+1)=((i+1:Nat):Int):=wrapS (by omega)
    obtain ⟨w,hw1,hw2⟩:=free_ex (N:=code.length+2) (rest:=code.drop i) (gone:=gone) (by simp;omega)
    have hfo:=freeV_ok (code.drop i) gone (code.length+2) 0 w (by omega) (by omega) hw2
    have hin:=ct_in code c (code.length+2) i left gone [[I 0,Z],[I ((code.length:Int)+2),O2 es]] (by omega) hl (by omega) (fun v hv=>by
      rw [hq v hv,← List.count_pos_iff];omega) (code.length+2) 0 (by omega) ⟨w,by omega,hw1,hw2⟩
    have hct:ctree (code.length+2) (code.drop i) gone es=ctree (code.length+2) (code.drop (i+1)) (gone++[(freeV (code.drop i) gone (code.length+2) 0:Int)]) (insE (min (freeV (code.drop i) gone (code.length+2) 0:Int) code[i],max (freeV (code.drop i) gone (code.length+2) 0:Int) code[i]) es):=by
      conv=>lhs;rw [List.drop_eq_getElem_cons hi2]
      rw [ctree,← List.drop_eq_getElem_cons hi2]
    rw [hct]
    generalize freeV (code.drop i) gone (code.length+2) 0=u at *
    have e1:=fun cc=>ev_lim (ev_addEdge ((code.length:Int)+2) es cc (u:Int) code[i] (by omega))
    have hn:=ih (i+1) (left.set p (left[p] - 1)) (gone++[(u:Int)]) (insE (min (u:Int) code[i],max (u:Int) code[i]) es) (by omega) (by simpa using hl) (by simp [hg]) (by rw [insE_len];omega) fun v hv=>by
      have:=count_drop_succ hi2 (v:Int)
      rw [getD_set (by omega)]
      have hqv:=hq v hv
      rw [hp] at this
      by_cases hpv:p=v
      · subst hpv;simp only [if_true] at this ⊢;omega
      · rw [if_neg hpv];rw [if_neg (by omega)] at this;omega
    rw [hp] at e1 hn ⊢
    have hgo:gone.take gone.length=gone:=List.take_of_length_le (Nat.le_refl _)
    have hgl:gone.length+1≤274877906944:=by omega
    have heo:es.take es.length=es:=List.take_of_length_le (Nat.le_refl _)
    refine wp_loop ?_
    repeat (first|refine wp_as ?_|refine wp_ss ?_|refine wr (by simp [hi2];with_reducible rfl) ?_|refine wq (by simp [hi2];with_reducible rfl) ?_|refine wt (by simpa [hi2]) ?_|refine wf (by simpa [hi2]) ?_|refine xt (by simpa [hi2]) ?_|refine xf (by simpa [hi2]) ?_|refine wp_bs ?_|refine wp_b ?_|refine wp_sr ?_|refine wp_sx ?_|refine wp_ret' ?_|refine wp_skip' ?_|refine wp_exit' ?_)
    refine wp_imp hin ?_
    rintro ex st ⟨rfl,rfl⟩
    try simp only [if_true]
    repeat (first|refine wp_as ?_|refine wp_ss ?_|refine wr (by simp [hi2,hp,hpl,w1,w2,e1,hgo,hgl,heo];with_reducible rfl) ?_|refine wq (by simp [hi2,hp,hpl,w1,w2,e1,hgo,hgl,heo];with_reducible rfl) ?_|refine wt (by simpa [hi2,hp,hpl,w1,w2,e1,hgo,hgl,heo]) ?_|refine wf (by simpa [hi2,hp,hpl,w1,w2,e1,hgo,hgl,heo]) ?_|refine xt (by simpa [hi2,hp,hpl,w1,w2,e1,hgo,hgl,heo]) ?_|refine xf (by simpa [hi2,hp,hpl,w1,w2,e1,hgo,hgl,heo]) ?_|refine wp_bs ?_|refine wp_b ?_|refine wp_sr ?_|refine wp_sx ?_|refine wp_ret' ?_|refine wp_skip' ?_|refine wp_exit' ?_)
    exact hn
theorem ct_last (N:Nat) (gone:List Int) (es:List (Int×Int)) (hN:N≤7) (hg:gone.length≤7):∀ (m j:Nat),j+m=N →
    wp tb (.loop z341l27) { T:=[(2,.bptr 0 0 0),(3,I N),(4,.bptr 0 1 0),(7,O gone),(10,O (((rI N).take j).filter fun v=>!decide (v ∈ gone))),(11,I j)],loc:=[[I 0,Z],[I N,O2 es]],M:=[] }
      (fun ex st=>ex=.exit 6∧st={ T:=[(2,.bptr 0 0 0),(3,I N),(4,.bptr 0 1 0),(7,O gone),(10,O (lasts N gone)),(11,I N),(87,Bo false)],loc:=[[I 0,Z],[I N,O2 es]],M:=[] }):=by
  intro m
  induction m with
  | zero =>
    intro j hj
    have h3:j=N:=hj
    subst h3
    refine wp_loop ?_
    repeat (first|refine wp_as ?_|refine wp_ss ?_|refine wr (by simp;with_reducible rfl) ?_|refine wq (by simp;with_reducible rfl) ?_|refine wt (by simpa) ?_|refine wf (by simpa) ?_|refine xt (by simpa) ?_|refine xf (by simpa) ?_|refine wp_bs ?_|refine wp_b ?_|refine wp_sr ?_|refine wp_sx ?_|refine wp_ret' ?_|refine wp_skip' ?_|refine wp_exit' ?_)
    have:(rI j).take j=rI j:=List.take_of_length_le (by rw [rI_len];exact Nat.le_refl _)
    rw [this]
    exact ⟨rfl,rfl⟩
  | succ m ih =>
    intro j hj
    have hj2:j < N:=by omega
    have hj3:j < (rI N).length:=by rw [rI_len];exact hj2
    have hgo:gone.take gone.length=gone:=List.take_of_length_le (Nat.le_refl _)
    have w2:IntKind.i64.wrap ((j:Int)+1)=((j+1:Nat):Int):=wrapS (by omega)
    have e1:=fun cc=>ev_lim (ev_hasInt gone cc (j:Int) (by omega))
    have hn:=ih (j+1) (by omega)
    rw [filter_take_succ hj3,show (rI N)[j]=(j:Int) by simp [rI]] at hn
    have hal:(((rI N).take j).filter fun v=>!decide (v ∈ gone)).length≤j:=Nat.le_trans (List.length_filter_le _ _) (by simp;omega)
    generalize (((rI N).take j).filter fun v=>!decide (v ∈ gone))=A at *
    have hAl:A.length+1≤274877906944:=by omega
    have hAT:A.take A.length=A:=List.take_of_length_le (Nat.le_refl _)
    by_cases hgv:(j:Int) ∈ gone
    · simp only [hgv,decide_true,Bool.not_true,Bool.false_eq_true,if_false,List.append_nil] at hn
      refine wp_loop ?_
      repeat (first|refine wp_as ?_|refine wp_ss ?_|refine wr (by simp [hj2,e1,hgv,hgo,w2];with_reducible rfl) ?_|refine wq (by simp [hj2,e1,hgv,hgo,w2];with_reducible rfl) ?_|refine wt (by simpa [hj2,e1,hgv,hgo,w2]) ?_|refine wf (by simpa [hj2,e1,hgv,hgo,w2]) ?_|refine xt (by simpa [hj2,e1,hgv,hgo,w2]) ?_|refine xf (by simpa [hj2,e1,hgv,hgo,w2]) ?_|refine wp_bs ?_|refine wp_b ?_|refine wp_sr ?_|refine wp_sx ?_|refine wp_ret' ?_|refine wp_skip' ?_|refine wp_exit' ?_)
      exact hn
    · simp only [hgv,decide_false,Bool.not_false,if_true] at hn
      refine wp_loop ?_
      repeat (first|refine wp_as ?_|refine wp_ss ?_|refine wr (by simp [hj2,e1,hgv,hgo,w2,hAl,hAT];with_reducible rfl) ?_|refine wq (by simp [hj2,e1,hgv,hgo,w2,hAl,hAT];with_reducible rfl) ?_|refine wt (by simpa [hj2,e1,hgv,hgo,w2,hAl,hAT]) ?_|refine wf (by simpa [hj2,e1,hgv,hgo,w2,hAl,hAT]) ?_|refine xt (by simpa [hj2,e1,hgv,hgo,w2,hAl,hAT]) ?_|refine xf (by simpa [hj2,e1,hgv,hgo,w2,hAl,hAT]) ?_|refine wp_bs ?_|refine wp_b ?_|refine wp_sr ?_|refine wp_sx ?_|refine wp_ret' ?_|refine wp_skip' ?_|refine wp_exit' ?_)
      exact hn
theorem ctree_len (N:Nat):∀ (rest gone:List Int) (es:List (Int×Int)),(ctree N rest gone es).1.length=rest.length+es.length∧(ctree N rest gone es).2.length=rest.length+gone.length
  | [],gone,es=>by simp [ctree]
  | c::r,gone,es=>by
    rw [ctree]
    obtain ⟨h1,h2⟩:=ctree_len N r (gone++[(freeV (c::r) gone N 0:Int)]) (insE (min (freeV (c::r) gone N 0:Int) c,max (freeV (c::r) gone N 0:Int) c) es)
    rw [h1,h2,insE_len]
    simp;omega
theorem ev_codeTree (code:List Int) (c:Bool) (hc:Code7 code):Ev tb zl341 [] [L code c] [] ⟨OG ((code.length:Int)+2) (codeT code),[],[],[]⟩:=by
  have hcl:=hc.len
  have w0:IntKind.i64.wrap ((code.length:Int)+2)=(code.length:Int)+2:=wrap64 (by omega) (by omega)
  have h0:(0:Int)≤(code.length:Int)+2:=by omega
  have hm:code.length+2≤274877906944:=by omega
  have hA:=ct_left code c hc [[I 0,Z],[I ((code.length:Int)+2),O2 []]] code.length 0 (List.replicate (code.length+2) 0) (by omega) (by simp) (fun v hv=>by simp [List.getD_eq_getElem?_getD,List.getElem?_replicate,hv])
  have hlen:=ctree_len (code.length+2) code [] []
  have hla:=lasts_len (N:=code.length+2) (gone:=(ctree (code.length+2) code [] []).2) (by rw [hlen.2];simp)
  have hno:natOf (I ((code.length:Int)+2))=some (code.length+2):=natOf_nat (n:=code.length+2)
  refine call_of_wp zt341 rfl ?_
  repeat (first|refine wp_as ?_|refine wp_ss ?_|refine wr (by simp [w0,h0,hm,hno];with_reducible rfl) ?_|refine wq (by simp [w0,h0,hm,hno];with_reducible rfl) ?_|refine wt (by simpa [w0,h0,hm,hno]) ?_|refine wf (by simpa [w0,h0,hm,hno]) ?_|refine xt (by simpa [w0,h0,hm,hno]) ?_|refine xf (by simpa [w0,h0,hm,hno]) ?_|refine wp_bs ?_|refine wp_b ?_|refine wp_sr ?_|refine wp_sx ?_|refine wp_ret' ?_|refine wp_skip' ?_|refine wp_exit' ?_)
  refine wp_imp hA ?_
  rintro ex st ⟨rfl,left,⟨hll,hq⟩,rfl⟩
  try simp only [if_true]
  repeat (first|refine wp_as ?_|refine wp_ss ?_|refine wr (by simp;with_reducible rfl) ?_|refine wq (by simp;with_reducible rfl) ?_|refine wt (by simpa) ?_|refine wf (by simpa) ?_|refine xt (by simpa) ?_|refine xf (by simpa) ?_|refine wp_bs ?_|refine wp_b ?_|refine wp_sr ?_|refine wp_sx ?_|refine wp_ret' ?_|refine wp_skip' ?_|refine wp_exit' ?_)
  refine wp_imp (ct_out code c hc code.length 0 left [] [] (by omega) hll rfl rfl (by simpa using hq)) ?_
  rintro ex st ⟨rfl,left',rfl⟩
  try simp only [if_true,List.drop_zero]
  obtain ⟨q,hqe⟩:∃ q,q=ctree (code.length+2) code [] []:=⟨_,rfl⟩
  rw [← hqe] at hla hlen ⊢
  have hC:=ct_last (code.length+2) q.2 q.1 (by omega) (by rw [hlen.2];simp;omega) (code.length+2) 0 (by omega)
  rw [show ((code.length+2:Nat):Int)=(code.length:Int)+2 by omega] at hC
  repeat (first|refine wp_as ?_|refine wp_ss ?_|refine wr (by simp;with_reducible rfl) ?_|refine wq (by simp;with_reducible rfl) ?_|refine wt (by simpa) ?_|refine wf (by simpa) ?_|refine xt (by simpa) ?_|refine xf (by simpa) ?_|refine wp_bs ?_|refine wp_b ?_|refine wp_sr ?_|refine wp_sx ?_|refine wp_ret' ?_|refine wp_skip' ?_|refine wp_exit' ?_)
  refine wp_imp hC ?_
  rintro ex st ⟨rfl,rfl⟩
  try simp only [if_true]
  have hct:codeT code=insE (min ((lasts (code.length+2) q.2).getD 0 0) ((lasts (code.length+2) q.2).getD 1 0),max ((lasts (code.length+2) q.2).getD 0 0) ((lasts (code.length+2) q.2).getD 1 0)) q.1:=by rw [codeT,hqe]
  generalize lasts (code.length+2) q.2=l at *
  obtain ⟨x,y,r,rfl⟩:∃ x y r,l=x::y::r:=by
    match l,hla with
    | x::y::r,_=>exact ⟨x,y,r,rfl⟩
  simp only [List.getD_cons_zero,List.getD_cons_succ] at hct
  have e1:=fun cc=>ev_lim (ev_addEdge ((code.length:Int)+2) q.1 cc x y (by rw [hlen.1];simp;omega))
  rw [← hct] at e1
  have hgo:q.1.take q.1.length=q.1:=List.take_of_length_le (Nat.le_refl _)
  repeat (first|refine wp_as ?_|refine wp_ss ?_|refine wr (by simp [e1,hgo];with_reducible rfl) ?_|refine wq (by simp [e1,hgo];with_reducible rfl) ?_|refine wt (by simpa [e1,hgo]) ?_|refine wf (by simpa [e1,hgo]) ?_|refine xt (by simpa [e1,hgo]) ?_|refine xf (by simpa [e1,hgo]) ?_|refine wp_bs ?_|refine wp_b ?_|refine wp_sr ?_|refine wp_sx ?_|refine wp_ret' ?_|refine wp_skip' ?_|refine wp_exit' ?_)
  simp [zi341]
end Go.Idl
namespace Go.Idl
open Go
abbrev Str (s:ByteArray):IV:=.sc (.string s)
def strs (l:List ByteArray):List (List IV):=l.map fun s=>[Str s]
@[simp] theorem strs_len (l:List ByteArray):(strs l).length=l.length:=by simp [strs]
@[simp] theorem strs_get (l:List ByteArray) (i:Nat) (h:i < (strs l).length):(strs l)[i]=[IV.sc (.string (l[i]'(by simpa [strs] using h)))]:=by simp [strs]
@[simp] theorem strs_get? (l:List ByteArray) (i:Nat):(strs l)[i]? = l[i]?.map fun s=>[IV.sc (.string s)]:=by simp [strs]
end Go.Idl
namespace Go.Idl
open Go
def gls (n:Int) (gl:List (List (Int×Int))):List (List IV):=gl.map fun es=>[I n,O2 es]
@[simp] theorem gls_len (n:Int) (gl):(gls n gl).length=gl.length:=by simp [gls]
@[simp] theorem gls_one (n:Int) (gl) (es:List (Int×Int)):gls n gl++[[IV.sc (.int .i64 n),.own 2 (eds es)]]=gls n (gl++[es]):=by simp [gls]
@[simp] theorem gls_emp (n:Int) (gl):(gls n gl).isEmpty=gl.isEmpty:=by cases gl <;> rfl
@[simp] theorem gls_take (n:Int) (gl) (k:Nat):(gls n gl).take k=gls n (gl.take k):=by simp [gls,List.map_take]
@[simp] theorem gls_all (n:Int) (gl):((gls n gl).all fun x=>x.all IV.isData)=true:=by
  induction gl with
  | nil=>rfl
  | cons x xs ih=>simp only [gls,List.map_cons,List.all_cons] at *;rw [ih];rfl
@[simp] theorem gls_noLst (n:Int) (gl):noLstLL (gls n gl)=true:=by
  induction gl with
  | nil=>rfl
  | cons x xs ih=>simp only [gls,List.map_cons,noLstLL,noLstL,noLstV,eds_noLst] at *;rw [ih];rfl
end Go.Idl
namespace Go.Idl
open Go
abbrev GF:=List (List (Int×Int)×Bool)
def glf (n:Int) (R:GF):List (List IV):=R.map fun x=>[I n,L2 x.1 x.2]
@[simp] theorem glf_len (n:Int) (R:GF):(glf n R).length=R.length:=by simp [glf]
@[simp] theorem glf_nil (n:Int):glf n []=[]:=rfl
@[simp] theorem glf_app (n:Int) (R S:GF):glf n R++glf n S=glf n (R++S):=by simp [glf]
@[simp] theorem glf_take (n:Int) (R:GF) (k:Nat):(glf n R).take k=glf n (R.take k):=by simp [glf,List.map_take]
@[simp] theorem glf_all (n:Int) (R:GF):((glf n R).all fun x=>x.all IV.isData)=true:=by
  induction R with
  | nil=>rfl
  | cons x xs ih=>simp only [glf,List.map_cons,List.all_cons] at *;rw [ih];rfl
end Go.Idl
namespace Go.Idl
open Go
@[simp] theorem un_neg (n:Int):Op.unary .neg (.int .i64 n)=.pure (.int .i64 (IntKind.i64.wrap (-n))):=by
  rw [← Int.zero_sub];rfl
def gs (r c:List Int) (i:Nat):Int:=-((fall r).take (i+1)).sum+(c.map fun x:Int=>min x ((i:Int)+1)).sum
end Go.Idl
namespace Go.Idl
open Go
def TT (n:Nat) (t:List (List Int)):Prop:=t.length=n∧∀ r ∈ t,r.length=n∧∀ x ∈ r,0≤x∧x≤1
theorem TT.set {n:Nat} {t:List (List Int)} (h:TT n t) {a b:Nat} {v:Int} (ha:a < t.length) (hv:0≤v∧v≤1):TT n (t.set a (t[a].set b v)):=by
  refine ⟨by simpa using h.1,fun r hr=>?_⟩
  have h1:=h.2 _ (List.getElem_mem ha)
  rcases List.mem_or_eq_of_mem_set hr with hr | rfl
  · exact h.2 r hr
  · refine ⟨by simpa using h1.1,fun x hx=>?_⟩
    rcases List.mem_or_eq_of_mem_set hx with hx | rfl
    · exact h1.2 x hx
    · exact hv
end Go.Idl
namespace Go.Idl
open Go
def MM (h w:Nat) (t:List (List Int)):Prop:=t.length=h∧∀ r ∈ t,r.length=w∧∀ x ∈ r,0≤x∧x≤1
end Go.Idl
namespace Go.Idl
open Go
theorem MM.sums {h w:Nat} {t:List (List Int)} (ht:MM h w t) (hw:w≤5):∀ x ∈ t.map List.sum,0≤x∧x≤5:=by
  intro x hx
  obtain ⟨r,hr,rfl⟩:=List.mem_map.1 hx
  have h1:=ht.2 r hr
  have:=sum01 r h1.2
  omega
end Go.Idl
namespace Go.Idl
open Go
def idxE (p:Int×Int→Bool) (i:Int):List (Int×Int)→Int
  | []=>-1
  | x::xs=>if p x then i else idxE p (i+1) xs
theorem ev_IndexFuncEL (xs:List (Int×Int)) (F:Lab) (caps:List IV) (M:List Boxes) (p:Int×Int→Bool) (hl:xs.length≤1000000)
    (hp:∀ x ∈ xs,Ev tb F [] (.agg [I x.1,I x.2]::caps) (M++[[]]) ⟨Bo (p x),[],M++[[]],[]⟩) :
    Ev tb zl448 [0] [O2 xs,.fn F caps] M ⟨I (idxE p 0 xs),[O2 xs],M,[]⟩:=by
  have loop:∀ (m i:Nat),i+m=xs.length→wp tb (.loop z448l7) { T:=[(0,O2 xs),(1,.fn F caps),(7,I xs.length),(8,I i)],loc:=[],M:=M }
      (fun ex st=>(ex=.exit 0∧idxE p i (xs.drop i)=-1∧st={ T:=[(0,O2 xs),(1,.fn F caps),(7,I xs.length),(8,I xs.length),(9,Bo false)],loc:=[],M:=M }) ∨
        ex=.ret∧st={ T:=[(0,O2 xs),(4,I (idxE p i (xs.drop i)))],loc:=[],M:=M }):=by
    intro m
    induction m with
    | zero =>
      intro i hi
      have h2:xs.drop i=[]:=List.drop_of_length_le (by omega)
      have h3:i=xs.length:=hi
      subst h3
      refine wp_loop ?_
      repeat (first|refine wp_as ?_|refine wp_ss ?_|refine wr (by simp;with_reducible rfl) ?_|refine wq (by simp;with_reducible rfl) ?_|refine wt (by simpa) ?_|refine wf (by simpa) ?_|refine xt (by simpa) ?_|refine xf (by simpa) ?_|refine wp_bs ?_|refine wp_b ?_|refine wp_sr ?_|refine wp_sx ?_|refine wp_ret' ?_|refine wp_skip' ?_|refine wp_exit' ?_)
      refine .inl ⟨rfl,by rw [h2];rfl,rfl⟩
    | succ m ih =>
      intro i hi
      have hi2:i < xs.length:=by omega
      have h2:xs.drop i=xs[i]::xs.drop (i+1):=List.drop_eq_getElem_cons hi2
      have e1:=ev_lim (hp _ (List.getElem_mem hi2))
      have w1:IntKind.i64.wrap ((i:Int)+1)=((i+1:Nat):Int):=wrapS (by omega)
      have gx:(eds xs)[i]'(by simpa using hi2)=[I xs[i].1,I xs[i].2]:=by simp [eds]
      rw [h2]
      cases hpx:p xs[i] with
      | true =>
        refine wp_loop ?_
        repeat (first|refine wp_as ?_|refine wp_ss ?_|refine wr (by simp [e1,hi2,w1,hpx,gx];with_reducible rfl) ?_|refine wq (by simp [e1,hi2,w1,hpx,gx];with_reducible rfl) ?_|refine wt (by simpa [e1,hi2,w1,hpx,gx]) ?_|refine wf (by simpa [e1,hi2,w1,hpx,gx]) ?_|refine xt (by simpa [e1,hi2,w1,hpx,gx]) ?_|refine xf (by simpa [e1,hi2,w1,hpx,gx]) ?_|refine wp_bs ?_|refine wp_b ?_|refine wp_sr ?_|refine wp_sx ?_|refine wp_ret' ?_|refine wp_skip' ?_|refine wp_exit' ?_)
        refine .inr ⟨rfl,by simp [idxE,hpx]⟩
      | false =>
        refine wp_loop ?_
        repeat (first|refine wp_as ?_|refine wp_ss ?_|refine wr (by simp [e1,hi2,w1,hpx,gx];with_reducible rfl) ?_|refine wq (by simp [e1,hi2,w1,hpx,gx];with_reducible rfl) ?_|refine wt (by simpa [e1,hi2,w1,hpx,gx]) ?_|refine wf (by simpa [e1,hi2,w1,hpx,gx]) ?_|refine xt (by simpa [e1,hi2,w1,hpx,gx]) ?_|refine xf (by simpa [e1,hi2,w1,hpx,gx]) ?_|refine wp_bs ?_|refine wp_b ?_|refine wp_sr ?_|refine wp_sx ?_|refine wp_ret' ?_|refine wp_skip' ?_|refine wp_exit' ?_)
        have:=ih (i+1) (by omega)
        simp only [idxE,hpx] at this ⊢
        exact this
  refine call_of_wp zt448 rfl ?_
  repeat (first|refine wp_as ?_|refine wp_ss ?_|refine wr (by simp;with_reducible rfl) ?_|refine wq (by simp;with_reducible rfl) ?_|refine wt (by simpa) ?_|refine wf (by simpa) ?_|refine xt (by simpa) ?_|refine xf (by simpa) ?_|refine wp_bs ?_|refine wp_b ?_|refine wp_sr ?_|refine wp_sx ?_|refine wp_ret' ?_|refine wp_skip' ?_|refine wp_exit' ?_)
  refine wp_imp (loop xs.length 0 (by simp)) ?_
  rintro ex st (⟨rfl,h,rfl⟩ | ⟨rfl,rfl⟩)
  · simp only [if_true]
    repeat (first|refine wp_as ?_|refine wp_ss ?_|refine wr (by simp;with_reducible rfl) ?_|refine wq (by simp;with_reducible rfl) ?_|refine wt (by simpa) ?_|refine wf (by simpa) ?_|refine xt (by simpa) ?_|refine xf (by simpa) ?_|refine wp_bs ?_|refine wp_b ?_|refine wp_sr ?_|refine wp_sx ?_|refine wp_ret' ?_|refine wp_skip' ?_|refine wp_exit' ?_)
    simp at h
    simp [zi448,h]
  · simp [zi448]
theorem idxE_spec (p:Int×Int→Bool):∀ (xs:List (Int×Int)) (i:Nat),(idxE p i xs=-1∧∀ x ∈ xs,p x=false) ∨ ∃ k:Nat,∃ h:k < xs.length,idxE p i xs=((i+k:Nat):Int)∧p xs[k]=true∧∀ x ∈ xs.take k,p x=false
  | [],i=>.inl ⟨rfl,by simp⟩
  | x::r,i=>by
    cases hp:p x with
    | true=>exact .inr ⟨0,by simp,by simp [idxE,hp],hp,by simp⟩
    | false =>
      rcases idxE_spec p r (i+1) with ⟨h1,h2⟩ | ⟨k,hk,h1,h2,h3⟩
      · refine .inl ⟨?_,fun y hy=>?_⟩
        · simp only [idxE,hp,Bool.false_eq_true,if_false];exact h1
        · rcases List.mem_cons.1 hy with rfl | hy
          · exact hp
          · exact h2 y hy
      · refine .inr ⟨k+1,by simp;exact hk,?_,h2,fun y hy=>?_⟩
        · simp only [idxE,hp,Bool.false_eq_true,if_false]
          rw [show ((i:Int)+1)=((i+1:Nat):Int) by omega,h1];omega
        · rw [List.take_succ_cons] at hy
          rcases List.mem_cons.1 hy with rfl | hy
          · exact hp
          · exact h3 y hy
end Go.Idl
namespace Go.Idl
open Go
structure SmallG (n:Int) (es:List (Int×Int)):Prop where
  n1:-1≤n
  n2:n≤8
  len:es.length≤60
  el:∀ e ∈ es,-1≤e.1∧e.1≤8∧-1≤e.2∧e.2≤8
theorem SmallG.fit {n es} (h:SmallG n es):Fit es:=fun e he=>by have:=h.el e he;omega
end Go.Idl
namespace Go.Idl
open Go
theorem degs_len (n:Nat) (es:List (Int×Int)):(degs n es).length=n:=by rw [degs,dfold_len];simp
end Go.Idl
namespace Go.Idl
open Go
def rgF (n i:Nat):List Int:=((List.range n).drop i).map fun v:Nat=>(v:Int)
theorem rgF_cons {n i:Nat} (h:i < n):rgF n i=(i:Int)::rgF n (i+1):=by
  rw [rgF,rgF,List.drop_eq_getElem_cons (by simpa using h)];simp
theorem rgF_end (n:Nat):rgF n n=[]:=by simp [rgF]
end Go.Idl
namespace Go.Idl
open Go
def nlT:List (List Int)→IV
  | []=>Z
  | x::r=>OT (x::r)
theorem ev_ClipT (t:List (List Int)):Ev tb zl257 [] [nlT t] [] ⟨nlT t,[],[],[]⟩:=by
  cases t with
  | nil =>
    simp only [nlT]
    refine call_of_wp zt257 rfl ?_
    repeat (first|apply wp_as|apply wp_ss|refine wr (by simp;with_reducible rfl) ?_|refine wq (by simp;with_reducible rfl) ?_|refine wt (by simpa) ?_|refine wf (by simpa) ?_|refine xt (by simpa) ?_|refine xf (by simpa) ?_|apply wp_bs|apply wp_b|refine wp_sr ?_|refine wp_sx ?_|refine wp_ret' ?_|refine wp_skip' ?_|refine wp_exit' ?_)
    simp [zi257]
  | cons x t =>
    simp only [nlT]
    have h2:(oab (x::t)).take (t.length+1)=oab (x::t):=List.take_of_length_le (by simp)
    refine call_of_wp zt257 rfl ?_
    repeat (first|apply wp_as|apply wp_ss|refine wr (by simp [h2];with_reducible rfl) ?_|refine wq (by simp [h2];with_reducible rfl) ?_|refine wt (by simpa [h2]) ?_|refine wf (by simpa [h2]) ?_|refine xt (by simpa [h2]) ?_|refine xf (by simpa [h2]) ?_|apply wp_bs|apply wp_b|refine wp_sr ?_|refine wp_sx ?_|refine wp_ret' ?_|refine wp_skip' ?_|refine wp_exit' ?_)
    simp [zi257,h2]
def inP (rt:List Int) (r:Int) (v:Int):Bool:=decide (rt.getD v.toNat 0=r)
def isR (rt:List Int) (v:Int):Bool:=inP rt v v
def partsF (n:Nat) (rt:List Int) (i:Nat):List (List Int):=((rgF n i).filter (isR rt)).map fun r=>(rgF n 0).filter (inP rt r)
theorem co_in (n:Nat) (hn:n≤7) (rt:List Int) (hl:rt.length=n) (acc:List (List Int)) (r:Nat) (B:Boxes):∀ (m i:Nat) (part:List Int),i+m=n→part.length≤i →
    wp tb (.loop z170l14) { T:=[(3,nlT acc),(4,O rt),(5,I r),(6,nlI part),(12,I n),(13,I r),(22,.arr (.S 4) 0 [] 1 0 n false),(23,I n),(24,I i)],loc:=B,M:=[] }
      (fun ex st=>ex=.exit 2∧st={ T:=[(3,nlT acc),(4,O rt),(5,I r),(6,nlI (part++(rgF n i).filter (inP rt r))),(12,I n),(13,I r),(22,.arr (.S 4) 0 [] 1 0 n false),(23,I n),(24,I n),(25,Bo false)],loc:=B,M:=[] }):=by
  intro m
  induction m with
  | zero =>
    intro i part hi hp
    have h3:i=n:=hi
    subst h3
    rw [rgF_end,List.filter_nil,List.append_nil]
    cases acc <;> cases part <;> simp only [nlT,nlI]
    · refine wp_loop ?_
      repeat (first|apply wp_as|apply wp_ss|refine wr (by simp;with_reducible rfl) ?_|refine wq (by simp;with_reducible rfl) ?_|refine wt (by simpa) ?_|refine wf (by simpa) ?_|refine xt (by simpa) ?_|refine xf (by simpa) ?_|apply wp_bs|apply wp_b|refine wp_sr ?_|refine wp_sx ?_|refine wp_ret' ?_|refine wp_skip' ?_|refine wp_exit' ?_)
      exact ⟨rfl,rfl⟩
    · refine wp_loop ?_
      repeat (first|apply wp_as|apply wp_ss|refine wr (by simp;with_reducible rfl) ?_|refine wq (by simp;with_reducible rfl) ?_|refine wt (by simpa) ?_|refine wf (by simpa) ?_|refine xt (by simpa) ?_|refine xf (by simpa) ?_|apply wp_bs|apply wp_b|refine wp_sr ?_|refine wp_sx ?_|refine wp_ret' ?_|refine wp_skip' ?_|refine wp_exit' ?_)
      exact ⟨rfl,rfl⟩
    · refine wp_loop ?_
      repeat (first|apply wp_as|apply wp_ss|refine wr (by simp;with_reducible rfl) ?_|refine wq (by simp;with_reducible rfl) ?_|refine wt (by simpa) ?_|refine wf (by simpa) ?_|refine xt (by simpa) ?_|refine xf (by simpa) ?_|apply wp_bs|apply wp_b|refine wp_sr ?_|refine wp_sx ?_|refine wp_ret' ?_|refine wp_skip' ?_|refine wp_exit' ?_)
      exact ⟨rfl,rfl⟩
    · refine wp_loop ?_
      repeat (first|apply wp_as|apply wp_ss|refine wr (by simp;with_reducible rfl) ?_|refine wq (by simp;with_reducible rfl) ?_|refine wt (by simpa) ?_|refine wf (by simpa) ?_|refine xt (by simpa) ?_|refine xf (by simpa) ?_|apply wp_bs|apply wp_b|refine wp_sr ?_|refine wp_sx ?_|refine wp_ret' ?_|refine wp_skip' ?_|refine wp_exit' ?_)
      exact ⟨rfl,rfl⟩
  | succ m ih =>
    intro i part hi hp
    have hi2:i < n:=by omega
    have hil:i < rt.length:=by omega
    have w1:IntKind.i64.wrap ((i:Int)+1)=((i+1:Nat):Int):=wrapS (by omega)
    have gi:rt.getD i 0=rt[i]:=by rw [List.getD_eq_getElem?_getD,List.getElem?_eq_getElem hil];rfl
    rw [rgF_cons hi2]
    by_cases hq:rt[i]=(r:Int)
    · have hpr:inP rt r (i:Int)=true:=by rw [inP,Int.toNat_natCast,gi];exact decide_eq_true hq
      rw [List.filter_cons_of_pos hpr]
      have hn2:=ih (i+1) (part++[(i:Int)]) (by omega) (by simp;omega)
      rw [List.append_assoc,List.cons_append,List.nil_append] at hn2
      have hl1:part.length+1≤274877906944:=by omega
      have hT:∀ x:Int,List.take (part.length+1) (part++[x])=part++[x]:=fun x=>List.take_of_length_le (by simp)
      have hT2:List.take part.length part=part:=List.take_of_length_le (Nat.le_refl _)
      cases part with
      | nil =>
        rw [List.nil_append] at hn2 ⊢
        have hn2:wp tb (.loop z170l14) { T:=[(3,nlT acc),(4,O rt),(5,I r),(6,O [(i:Int)]),(12,I n),(13,I r),(22,.arr (.S 4) 0 [] 1 0 n false),(23,I n),(24,I ((i+1:Nat):Int))],loc:=B,M:=[] } _:=hn2
        cases acc <;> simp only [nlT,nlI] at hn2 ⊢
        · refine wp_loop ?_
          repeat (first|apply wp_as|apply wp_ss|refine wr (by simp [hi2,hil,hl,hq,w1];with_reducible rfl) ?_|refine wq (by simp [hi2,hil,hl,hq,w1];with_reducible rfl) ?_|refine wt (by simpa [hi2,hil,hl,hq,w1]) ?_|refine wf (by simpa [hi2,hil,hl,hq,w1]) ?_|refine xt (by simpa [hi2,hil,hl,hq,w1]) ?_|refine xf (by simpa [hi2,hil,hl,hq,w1]) ?_|apply wp_bs|apply wp_b|refine wp_sr ?_|refine wp_sx ?_|refine wp_ret' ?_|refine wp_skip' ?_|refine wp_exit' ?_)
          exact hn2
        · refine wp_loop ?_
          repeat (first|apply wp_as|apply wp_ss|refine wr (by simp [hi2,hil,hl,hq,w1];with_reducible rfl) ?_|refine wq (by simp [hi2,hil,hl,hq,w1];with_reducible rfl) ?_|refine wt (by simpa [hi2,hil,hl,hq,w1]) ?_|refine wf (by simpa [hi2,hil,hl,hq,w1]) ?_|refine xt (by simpa [hi2,hil,hl,hq,w1]) ?_|refine xf (by simpa [hi2,hil,hl,hq,w1]) ?_|apply wp_bs|apply wp_b|refine wp_sr ?_|refine wp_sx ?_|refine wp_ret' ?_|refine wp_skip' ?_|refine wp_exit' ?_)
          exact hn2
      | cons y ys =>
        rw [List.cons_append] at hn2
        simp only [List.length_cons,List.cons_append] at hl1 hT hT2
        have hn2:wp tb (.loop z170l14) { T:=[(3,nlT acc),(4,O rt),(5,I r),(6,O (y::(ys++[(i:Int)]))),(12,I n),(13,I r),(22,.arr (.S 4) 0 [] 1 0 n false),(23,I n),(24,I ((i+1:Nat):Int))],loc:=B,M:=[] } _:=hn2
        cases acc <;> simp only [nlT,nlI] at hn2 ⊢
        · refine wp_loop ?_
          repeat (first|apply wp_as|apply wp_ss|refine wr (by simp [hi2,hil,hl,hq,w1,hl1,hT,hT2];with_reducible rfl) ?_|refine wq (by simp [hi2,hil,hl,hq,w1,hl1,hT,hT2];with_reducible rfl) ?_|refine wt (by simpa [hi2,hil,hl,hq,w1,hl1,hT,hT2]) ?_|refine wf (by simpa [hi2,hil,hl,hq,w1,hl1,hT,hT2]) ?_|refine xt (by simpa [hi2,hil,hl,hq,w1,hl1,hT,hT2]) ?_|refine xf (by simpa [hi2,hil,hl,hq,w1,hl1,hT,hT2]) ?_|apply wp_bs|apply wp_b|refine wp_sr ?_|refine wp_sx ?_|refine wp_ret' ?_|refine wp_skip' ?_|refine wp_exit' ?_)
          exact hn2
        · refine wp_loop ?_
          repeat (first|apply wp_as|apply wp_ss|refine wr (by simp [hi2,hil,hl,hq,w1,hl1,hT,hT2];with_reducible rfl) ?_|refine wq (by simp [hi2,hil,hl,hq,w1,hl1,hT,hT2];with_reducible rfl) ?_|refine wt (by simpa [hi2,hil,hl,hq,w1,hl1,hT,hT2]) ?_|refine wf (by simpa [hi2,hil,hl,hq,w1,hl1,hT,hT2]) ?_|refine xt (by simpa [hi2,hil,hl,hq,w1,hl1,hT,hT2]) ?_|refine xf (by simpa [hi2,hil,hl,hq,w1,hl1,hT,hT2]) ?_|apply wp_bs|apply wp_b|refine wp_sr ?_|refine wp_sx ?_|refine wp_ret' ?_|refine wp_skip' ?_|refine wp_exit' ?_)
          exact hn2
    · have hpr:¬ inP rt r (i:Int)=true:=by rw [inP,Int.toNat_natCast,gi,decide_eq_true_eq];exact hq
      rw [List.filter_cons_of_neg hpr]
      have hn2:=ih (i+1) part (by omega) (by omega)
      cases acc <;> cases part <;> simp only [nlT,nlI] at hn2 ⊢
      · refine wp_loop ?_
        repeat (first|apply wp_as|apply wp_ss|refine wr (by simp [hi2,hil,hl,hq,w1];with_reducible rfl) ?_|refine wq (by simp [hi2,hil,hl,hq,w1];with_reducible rfl) ?_|refine wt (by simpa [hi2,hil,hl,hq,w1]) ?_|refine wf (by simpa [hi2,hil,hl,hq,w1]) ?_|refine xt (by simpa [hi2,hil,hl,hq,w1]) ?_|refine xf (by simpa [hi2,hil,hl,hq,w1]) ?_|apply wp_bs|apply wp_b|refine wp_sr ?_|refine wp_sx ?_|refine wp_ret' ?_|refine wp_skip' ?_|refine wp_exit' ?_)
        exact hn2
      · refine wp_loop ?_
        repeat (first|apply wp_as|apply wp_ss|refine wr (by simp [hi2,hil,hl,hq,w1];with_reducible rfl) ?_|refine wq (by simp [hi2,hil,hl,hq,w1];with_reducible rfl) ?_|refine wt (by simpa [hi2,hil,hl,hq,w1]) ?_|refine wf (by simpa [hi2,hil,hl,hq,w1]) ?_|refine xt (by simpa [hi2,hil,hl,hq,w1]) ?_|refine xf (by simpa [hi2,hil,hl,hq,w1]) ?_|apply wp_bs|apply wp_b|refine wp_sr ?_|refine wp_sx ?_|refine wp_ret' ?_|refine wp_skip' ?_|refine wp_exit' ?_)
        exact hn2
      · refine wp_loop ?_
        repeat (first|apply wp_as|apply wp_ss|refine wr (by simp [hi2,hil,hl,hq,w1];with_reducible rfl) ?_|refine wq (by simp [hi2,hil,hl,hq,w1];with_reducible rfl) ?_|refine wt (by simpa [hi2,hil,hl,hq,w1]) ?_|refine wf (by simpa [hi2,hil,hl,hq,w1]) ?_|refine xt (by simpa [hi2,hil,hl,hq,w1]) ?_|refine xf (by simpa [hi2,hil,hl,hq,w1]) ?_|apply wp_bs|apply wp_b|refine wp_sr ?_|refine wp_sx ?_|refine wp_ret' ?_|refine wp_skip' ?_|refine wp_exit' ?_)
        exact hn2
      · refine wp_loop ?_
        repeat (first|apply wp_as|apply wp_ss|refine wr (by simp [hi2,hil,hl,hq,w1];with_reducible rfl) ?_|refine wq (by simp [hi2,hil,hl,hq,w1];with_reducible rfl) ?_|refine wt (by simpa [hi2,hil,hl,hq,w1]) ?_|refine wf (by simpa [hi2,hil,hl,hq,w1]) ?_|refine xt (by simpa [hi2,hil,hl,hq,w1]) ?_|refine xf (by simpa [hi2,hil,hl,hq,w1]) ?_|apply wp_bs|apply wp_b|refine wp_sr ?_|refine wp_sx ?_|refine wp_ret' ?_|refine wp_skip' ?_|refine wp_exit' ?_)
        exact hn2
theorem nlI_filter {xs:List Int} {p:Int→Bool} {r:Int} (h:r ∈ xs) (hp:p r=true):∃ y ys,xs.filter p=y::ys:=by
  cases hq:xs.filter p with
  | nil=>have:r ∈ xs.filter p:=List.mem_filter.2 ⟨h,hp⟩;rw [hq] at this;cases this
  | cons y ys=>exact ⟨y,ys,rfl⟩
theorem mem_rgF {n i:Nat} {x:Int}:x ∈ rgF n i ↔ (i:Int)≤x∧x < n:=by
  rw [rgF,List.mem_map]
  constructor
  · rintro ⟨a,ha,rfl⟩
    obtain ⟨j,hj,rfl⟩:=List.mem_iff_getElem.1 ha
    simp only [List.length_drop,List.length_range] at hj
    simp only [List.getElem_drop,List.getElem_range];omega
  · rintro ⟨h1,h2⟩
    obtain ⟨k,rfl⟩:=Int.eq_ofNat_of_zero_le (show 0≤x by omega)
    refine ⟨k,List.mem_iff_getElem.2 ⟨k - i,by simp;omega,?_⟩,rfl⟩
    simp only [List.getElem_drop,List.getElem_range];omega
theorem co_out (n:Nat) (hn:n≤7) (rt:List Int) (hl:rt.length=n) (B:Boxes):∀ (m r:Nat) (acc:List (List Int)),r+m=n→acc.length≤r →
    wp tb (.loop z170l17) { T:=[(3,nlT acc),(4,O rt),(12,I n),(13,I r)],loc:=B,M:=[] }
      (fun ex st=>ex=.exit 0∧st={ T:=[(3,nlT (acc++partsF n rt r)),(4,O rt),(12,I n),(13,I n),(14,Bo false)],loc:=B,M:=[] }):=by
  intro m
  induction m with
  | zero =>
    intro r acc hr ha
    have h3:r=n:=hr
    subst h3
    rw [partsF,rgF_end,List.filter_nil,List.map_nil,List.append_nil]
    cases acc <;> simp only [nlT]
    · refine wp_loop ?_
      repeat (first|apply wp_as|apply wp_ss|refine wr (by simp;with_reducible rfl) ?_|refine wq (by simp;with_reducible rfl) ?_|refine wt (by simpa) ?_|refine wf (by simpa) ?_|refine xt (by simpa) ?_|refine xf (by simpa) ?_|apply wp_bs|apply wp_b|refine wp_sr ?_|refine wp_sx ?_|refine wp_ret' ?_|refine wp_skip' ?_|refine wp_exit' ?_)
      exact ⟨rfl,rfl⟩
    · refine wp_loop ?_
      repeat (first|apply wp_as|apply wp_ss|refine wr (by simp;with_reducible rfl) ?_|refine wq (by simp;with_reducible rfl) ?_|refine wt (by simpa) ?_|refine wf (by simpa) ?_|refine xt (by simpa) ?_|refine xf (by simpa) ?_|apply wp_bs|apply wp_b|refine wp_sr ?_|refine wp_sx ?_|refine wp_ret' ?_|refine wp_skip' ?_|refine wp_exit' ?_)
      exact ⟨rfl,rfl⟩
  | succ m ih =>
    intro r acc hr ha
    have hr2:r < n:=by omega
    have hrl:r < rt.length:=by omega
    have w1:IntKind.i64.wrap ((r:Int)+1)=((r+1:Nat):Int):=wrapS (by omega)
    have gi:rt.getD r 0=rt[r]:=by rw [List.getD_eq_getElem?_getD,List.getElem?_eq_getElem hrl];rfl
    rw [partsF,rgF_cons hr2]
    by_cases hq:rt[r]=(r:Int)
    · have hpr:isR rt (r:Int)=true:=by rw [isR,inP,Int.toNat_natCast,gi];exact decide_eq_true hq
      rw [List.filter_cons_of_pos hpr,List.map_cons]
      obtain ⟨y,ys,hy⟩:=nlI_filter (xs:=rgF n 0) (p:=inP rt r) (mem_rgF.2 ⟨by omega,by omega⟩) hpr
      have hn2:=ih (r+1) (acc++[(rgF n 0).filter (inP rt r)]) (by omega) (by simp;omega)
      rw [List.append_assoc,List.cons_append,List.nil_append,partsF] at hn2
      have inner:=co_in n hn rt hl acc r B n 0 [] (by omega) (by simp)
      rw [List.nil_append,hy] at inner
      rw [hy] at hn2 ⊢
      have e1:=ev_lim (ev_Clip (y::ys))
      have hl1:acc.length+1≤274877906944:=by omega
      have hT:∀ x:List Int,List.take (acc.length+1) (acc++[x])=acc++[x]:=fun x=>List.take_of_length_le (by simp)
      have hT2:List.take acc.length acc=acc:=List.take_of_length_le (Nat.le_refl _)
      cases acc with
      | nil =>
        simp only [List.nil_append,nlT,nlI] at hn2 inner ⊢
        rw [show ((0:Nat):Int)=0 from rfl] at inner
        refine wp_loop ?_
        repeat (first|apply wp_as|apply wp_ss|refine wr (by simp [hr2,hrl,hl,hq];with_reducible rfl) ?_|refine wq (by simp [hr2,hrl,hl,hq];with_reducible rfl) ?_|refine wt (by simpa [hr2,hrl,hl,hq]) ?_|refine wf (by simpa [hr2,hrl,hl,hq]) ?_|refine xt (by simpa [hr2,hrl,hl,hq]) ?_|refine xf (by simpa [hr2,hrl,hl,hq]) ?_|apply wp_bs|apply wp_b|refine wp_sr ?_|refine wp_sx ?_|refine wp_ret' ?_|refine wp_skip' ?_|refine wp_exit' ?_)
        refine wp_imp inner ?_
        rintro ex st ⟨rfl,rfl⟩
        simp only [if_true]
        repeat (first|apply wp_as|apply wp_ss|refine wr (by simp [e1,w1];with_reducible rfl) ?_|refine wq (by simp [e1,w1];with_reducible rfl) ?_|refine wt (by simpa [e1,w1]) ?_|refine wf (by simpa [e1,w1]) ?_|refine xt (by simpa [e1,w1]) ?_|refine xf (by simpa [e1,w1]) ?_|apply wp_bs|apply wp_b|refine wp_sr ?_|refine wp_sx ?_|refine wp_ret' ?_|refine wp_skip' ?_|refine wp_exit' ?_)
        exact hn2
      | cons a as =>
        simp only [List.cons_append,nlT,nlI] at hn2 inner ⊢
        simp only [List.length_cons,List.cons_append] at hl1 hT hT2
        rw [show ((0:Nat):Int)=0 from rfl] at inner
        refine wp_loop ?_
        repeat (first|apply wp_as|apply wp_ss|refine wr (by simp [hr2,hrl,hl,hq];with_reducible rfl) ?_|refine wq (by simp [hr2,hrl,hl,hq];with_reducible rfl) ?_|refine wt (by simpa [hr2,hrl,hl,hq]) ?_|refine wf (by simpa [hr2,hrl,hl,hq]) ?_|refine xt (by simpa [hr2,hrl,hl,hq]) ?_|refine xf (by simpa [hr2,hrl,hl,hq]) ?_|apply wp_bs|apply wp_b|refine wp_sr ?_|refine wp_sx ?_|refine wp_ret' ?_|refine wp_skip' ?_|refine wp_exit' ?_)
        refine wp_imp inner ?_
        rintro ex st ⟨rfl,rfl⟩
        simp only [if_true]
        repeat (first|apply wp_as|apply wp_ss|refine wr (by simp [e1,w1,hl1,hT,hT2];with_reducible rfl) ?_|refine wq (by simp [e1,w1,hl1,hT,hT2];with_reducible rfl) ?_|refine wt (by simpa [e1,w1,hl1,hT,hT2]) ?_|refine wf (by simpa [e1,w1,hl1,hT,hT2]) ?_|refine xt (by simpa [e1,w1,hl1,hT,hT2]) ?_|refine xf (by simpa [e1,w1,hl1,hT,hT2]) ?_|apply wp_bs|apply wp_b|refine wp_sr ?_|refine wp_sx ?_|refine wp_ret' ?_|refine wp_skip' ?_|refine wp_exit' ?_)
        exact hn2
    · have hpr:¬ isR rt (r:Int)=true:=by rw [isR,inP,Int.toNat_natCast,gi,decide_eq_true_eq];exact hq
      rw [List.filter_cons_of_neg hpr]
      have hn2:=ih (r+1) acc (by omega) (by omega)
      cases acc <;> simp only [nlT] at hn2 ⊢
      · refine wp_loop ?_
        repeat (first|apply wp_as|apply wp_ss|refine wr (by simp [hr2,hrl,hl,hq,w1];with_reducible rfl) ?_|refine wq (by simp [hr2,hrl,hl,hq,w1];with_reducible rfl) ?_|refine wt (by simpa [hr2,hrl,hl,hq,w1]) ?_|refine wf (by simpa [hr2,hrl,hl,hq,w1]) ?_|refine xt (by simpa [hr2,hrl,hl,hq,w1]) ?_|refine xf (by simpa [hr2,hrl,hl,hq,w1]) ?_|apply wp_bs|apply wp_b|refine wp_sr ?_|refine wp_sx ?_|refine wp_ret' ?_|refine wp_skip' ?_|refine wp_exit' ?_)
        exact hn2
      · refine wp_loop ?_
        repeat (first|apply wp_as|apply wp_ss|refine wr (by simp [hr2,hrl,hl,hq,w1];with_reducible rfl) ?_|refine wq (by simp [hr2,hrl,hl,hq,w1];with_reducible rfl) ?_|refine wt (by simpa [hr2,hrl,hl,hq,w1]) ?_|refine wf (by simpa [hr2,hrl,hl,hq,w1]) ?_|refine xt (by simpa [hr2,hrl,hl,hq,w1]) ?_|refine xf (by simpa [hr2,hrl,hl,hq,w1]) ?_|apply wp_bs|apply wp_b|refine wp_sr ?_|refine wp_sx ?_|refine wp_ret' ?_|refine wp_skip' ?_|refine wp_exit' ?_)
        exact hn2
def compI (n:Nat) (es:List (Int×Int)):List (List Int):=partsF n (rnds es n (idxB n (-1))) 0
theorem ev_components (n:Nat) (hn1:1≤n) (hn7:n≤7) (e0:Nat) (es:List (Int×Int)) (c:Bool) (he0:e0=2 ∨ es=[]) (hes:∀ e ∈ es,0≤e.1∧e.1 < n∧0≤e.2∧e.2 < n) (hel:es.length≤1000) :
    Ev tb zl170 [] [.agg [I n,.lst e0 (eds es) c]] [] ⟨nlT (compI n es),[],[],[]⟩:=by
  have e1:=ev_lim (ev_roots n hn1 hn7 e0 es c he0 hes hel)
  have hrl:(rnds es n (idxB n (-1))).length=n:=by rw [rnds_len,idxB_all];simp
  rw [compI]
  generalize rnds es n (idxB n (-1))=rt at *
  have loop:=co_out n hn7 rt hrl [[I n,.lst e0 (eds es) c]] n 0 [] (by omega) (by simp)
  rw [List.nil_append,show ((0:Nat):Int)=0 from rfl] at loop
  simp only [nlT] at loop
  have e2:=ev_lim (ev_ClipT (partsF n rt 0))
  generalize partsF n rt 0=P at *
  refine call_of_wp zt170 rfl ?_
  repeat (first|apply wp_as|apply wp_ss|refine wr (by simp [e1];with_reducible rfl) ?_|refine wq (by simp [e1];with_reducible rfl) ?_|refine wt (by simpa [e1]) ?_|refine wf (by simpa [e1]) ?_|refine xt (by simpa [e1]) ?_|refine xf (by simpa [e1]) ?_|apply wp_bs|apply wp_b|refine wp_sr ?_|refine wp_sx ?_|refine wp_ret' ?_|refine wp_skip' ?_|refine wp_exit' ?_)
  refine wp_imp loop ?_
  rintro ex st ⟨rfl,rfl⟩
  simp only [if_true]
  cases P with
  | nil =>
    simp only [nlT] at e2 ⊢
    repeat (first|apply wp_as|apply wp_ss|refine wr (by simp [e2];with_reducible rfl) ?_|refine wq (by simp [e2];with_reducible rfl) ?_|refine wt (by simpa [e2]) ?_|refine wf (by simpa [e2]) ?_|refine xt (by simpa [e2]) ?_|refine xf (by simpa [e2]) ?_|apply wp_bs|apply wp_b|refine wp_sr ?_|refine wp_sx ?_|refine wp_ret' ?_|refine wp_skip' ?_|refine wp_exit' ?_)
    simp [zi170]
  | cons p P =>
    simp only [nlT] at e2 ⊢
    repeat (first|apply wp_as|apply wp_ss|refine wr (by simp [e2];with_reducible rfl) ?_|refine wq (by simp [e2];with_reducible rfl) ?_|refine wt (by simpa [e2]) ?_|refine wf (by simpa [e2]) ?_|refine xt (by simpa [e2]) ?_|refine xf (by simpa [e2]) ?_|apply wp_bs|apply wp_b|refine wp_sr ?_|refine wp_sx ?_|refine wp_ret' ?_|refine wp_skip' ?_|refine wp_exit' ?_)
    simp [zi170]
theorem ev_IsConnected (n:Nat) (hn1:1≤n) (e0:Nat) (es:List (Int×Int)) (c:Bool) (he0:e0=2 ∨ es=[]) (hel:es.length≤1000) (hv:vGraph n es=true) (v1:limF tb zl26 [] [.agg [I n,.lst e0 (eds es) c]] []=some ⟨Bo true,[],[],[]⟩) :
    Ev tb zl178 [] [.agg [I n,.lst e0 (eds es) c]] [] ⟨Bo (decide ((compI n es).length=1)),[],[],[]⟩:=by
  have hes:∀ e ∈ es,0≤e.1∧e.1 < n∧0≤e.2∧e.2 < n:=fun e he=>by have:=mem_prs.1 ((vG_iff.1 hv).2.1 e he);omega
  have e1:=ev_lim (ev_components n hn1 (vG_iff.1 hv).2.2 e0 es c he0 hes hel)
  generalize compI n es=P at *
  cases P with
  | nil =>
    simp only [nlT] at e1
    refine call_of_wp zt178 rfl ?_
    repeat (first|apply wp_as|apply wp_ss|refine wr (by simp [v1,e1];with_reducible rfl) ?_|refine wq (by simp [v1,e1];with_reducible rfl) ?_|refine wt (by simpa [v1,e1]) ?_|refine wf (by simpa [v1,e1]) ?_|refine xt (by simpa [v1,e1]) ?_|refine xf (by simpa [v1,e1]) ?_|apply wp_bs|apply wp_b|refine wp_sr ?_|refine wp_sx ?_|refine wp_ret' ?_|refine wp_skip' ?_|refine wp_exit' ?_)
    simp [zi178]
  | cons p P =>
    simp only [nlT] at e1
    by_cases h1:P.length=0
    · have h1':P=[]:=List.length_eq_zero_iff.1 h1
      subst h1'
      refine call_of_wp zt178 rfl ?_
      repeat (first|apply wp_as|apply wp_ss|refine wr (by simp [v1,e1];with_reducible rfl) ?_|refine wq (by simp [v1,e1];with_reducible rfl) ?_|refine wt (by simpa [v1,e1]) ?_|refine wf (by simpa [v1,e1]) ?_|refine xt (by simpa [v1,e1]) ?_|refine xf (by simpa [v1,e1]) ?_|apply wp_bs|apply wp_b|refine wp_sr ?_|refine wp_sx ?_|refine wp_ret' ?_|refine wp_skip' ?_|refine wp_exit' ?_)
      simp [zi178]
    · have h2:¬ (P.length:Int)+1=1:=by omega
      have h3:¬ P=[]:=fun h=>h1 (by rw [h];rfl)
      refine call_of_wp zt178 rfl ?_
      repeat (first|apply wp_as|apply wp_ss|refine wr (by simp [v1,e1,h1,h2];with_reducible rfl) ?_|refine wq (by simp [v1,e1,h1,h2];with_reducible rfl) ?_|refine wt (by simpa [v1,e1,h1,h2]) ?_|refine wf (by simpa [v1,e1,h1,h2]) ?_|refine xt (by simpa [v1,e1,h1,h2]) ?_|refine xf (by simpa [v1,e1,h1,h2]) ?_|apply wp_bs|apply wp_b|refine wp_sr ?_|refine wp_sx ?_|refine wp_ret' ?_|refine wp_skip' ?_|refine wp_exit' ?_)
      simp [zi178,h3]
      exact h2
end Go.Idl
namespace Go.Idl
open Go
def bls (l:List Bool):List (List IV):=l.map fun b=>[Bo b]
@[simp] theorem bls_len (l:List Bool):(bls l).length=l.length:=by simp [bls]
@[simp] theorem bls_rep (n:Nat):List.replicate n [IV.sc (Value.bool false)]=bls (List.replicate n false):=by simp [bls]
@[simp] theorem bls_get (l:List Bool) (i:Nat) (h:i < (bls l).length):(bls l)[i]=[IV.sc (.bool (l[i]'(by simpa [bls] using h)))]:=by simp [bls]
@[simp] theorem bls_get? (l:List Bool) (i:Nat):(bls l)[i]? = l[i]?.map fun b=>[IV.sc (.bool b)]:=by simp [bls]
@[simp] theorem bls_set (l:List Bool) (i:Nat) (b:Bool):(bls l).set i [IV.sc (.bool b)]=bls (l.set i b):=by simp [bls,List.map_set]
end Go.Idl
namespace Go.Idl
open Go
def posAll (d:List Int):Bool:=d.all fun x=>decide (0 < x)
def conn (d:List Int):Bool:=graphic d && (decide (0 < d.length) && ((decide (d.length=1) || posAll d) && decide (2 * (d.length:Int) - 2≤d.sum)))
def treeD (d:List Int):Bool:=conn d && decide (d.sum=2 * (d.length:Int) - 2)
theorem graphic_valid {d:List Int} (h:graphic d=true):valid d=true:=by simp only [graphic,Bool.and_eq_true] at h;exact h.1.1
theorem min_pos {x:Int} {r:List Int}:(decide (0 < least1 x r))=posAll (x::r):=by
  rw [Bool.eq_iff_iff,decide_eq_true_eq]
  have:=least1_ge r x 1
  simp only [posAll,List.all_eq_true,decide_eq_true_eq,List.mem_cons]
  constructor
  · intro h y hy
    have h2:=this.1 (by omega)
    rcases hy with rfl | hy
    · omega
    · have:=h2.2 y hy;omega
  · intro h
    have:=this.2 ⟨by have:=h x (.inl rfl);omega,fun y hy=>by have:=h y (.inr hy);omega⟩
    omega
theorem ev_IsConnectable (d:List Int) (c:Bool) (hl:d.length≤1000000):Ev tb zl177 [] [L d c] [] ⟨Bo (conn d),[],[],[]⟩:=by
  have e1:=ev_lim (ev_IsGraphic d c hl)
  unfold conn
  cases hg:graphic d with
  | false =>
    refine call_of_wp zt177 rfl ?_
    repeat (first|refine wp_as ?_|refine wp_ss ?_|refine wr (by simp [e1,hg];with_reducible rfl) ?_|refine wq (by simp [e1,hg];with_reducible rfl) ?_|refine wt (by simpa [e1,hg]) ?_|refine wf (by simpa [e1,hg]) ?_|refine xt (by simpa [e1,hg]) ?_|refine xf (by simpa [e1,hg]) ?_|refine wp_bs ?_|refine wp_b ?_|refine wp_sr ?_|refine wp_sx ?_|refine wp_ret' ?_|refine wp_skip' ?_|refine wp_exit' ?_)
    simp [zi177]
  | true =>
  have hf:=valid_few (graphic_valid hg)
  have hsm:=hf.sum
  have e2:=ev_lim (ev_sum d c hf.small)
  have h7:=hf.1
  cases d with
  | nil =>
    refine call_of_wp zt177 rfl ?_
    repeat (first|refine wp_as ?_|refine wp_ss ?_|refine wr (by simp [e1,hg];with_reducible rfl) ?_|refine wq (by simp [e1,hg];with_reducible rfl) ?_|refine wt (by simpa [e1,hg]) ?_|refine wf (by simpa [e1,hg]) ?_|refine xt (by simpa [e1,hg]) ?_|refine xf (by simpa [e1,hg]) ?_|refine wp_bs ?_|refine wp_b ?_|refine wp_sr ?_|refine wp_sx ?_|refine wp_ret' ?_|refine wp_skip' ?_|refine wp_exit' ?_)
    simp [zi177]
  | cons x r =>
  have e3:=ev_lim (ev_Min x r c (by simp at h7;omega))
  have hmp:=min_pos (x:=x) (r:=r)
  have w1:IntKind.i64.wrap (2 * ((r.length:Int)+1))=2 * ((r.length:Int)+1):=wrap64 (by omega) (by simp at h7;omega)
  have w2:IntKind.i64.wrap (2 * ((r.length:Int)+1) - 2)=2 * ((r.length:Int)+1) - 2:=wrap64 (by omega) (by simp at h7;omega)
  by_cases h1:r=[]
  · subst h1
    refine call_of_wp zt177 rfl ?_
    repeat (first|refine wp_as ?_|refine wp_ss ?_|refine wr (by simp [e1,e2,hg,show IntKind.i64.wrap 2=2 from rfl,show IntKind.i64.wrap 0=0 from rfl];with_reducible rfl) ?_|refine wq (by simp [e1,e2,hg,show IntKind.i64.wrap 2=2 from rfl,show IntKind.i64.wrap 0=0 from rfl];with_reducible rfl) ?_|refine wt (by simpa [e1,e2,hg,show IntKind.i64.wrap 2=2 from rfl,show IntKind.i64.wrap 0=0 from rfl]) ?_|refine wf (by simpa [e1,e2,hg,show IntKind.i64.wrap 2=2 from rfl,show IntKind.i64.wrap 0=0 from rfl]) ?_|refine xt (by simpa [e1,e2,hg,show IntKind.i64.wrap 2=2 from rfl,show IntKind.i64.wrap 0=0 from rfl]) ?_|refine xf (by simpa [e1,e2,hg,show IntKind.i64.wrap 2=2 from rfl,show IntKind.i64.wrap 0=0 from rfl]) ?_|refine wp_bs ?_|refine wp_b ?_|refine wp_sr ?_|refine wp_sx ?_|refine wp_ret' ?_|refine wp_skip' ?_|refine wp_exit' ?_)
    simp [zi177]
  · have h2:¬ r.length=0:=fun h=>h1 (List.length_eq_zero_iff.1 h)
    have h3:¬ (r.length:Int)=0:=by omega
    have h4:¬ (r.length:Int)+1=1:=by omega
    have h5:(0:Int) < (r.length:Int)+1:=by omega
    rw [show posAll (x::r)=decide (0 < least1 x r) from hmp.symm]
    by_cases hp:0 < least1 x r
    · refine call_of_wp zt177 rfl ?_
      repeat (first|refine wp_as ?_|refine wp_ss ?_|refine wr (by simp [e1,e2,e3,hg,h1,h2,h3,h4,h5,hp,w1,w2];with_reducible rfl) ?_|refine wq (by simp [e1,e2,e3,hg,h1,h2,h3,h4,h5,hp,w1,w2];with_reducible rfl) ?_|refine wt (by simpa [e1,e2,e3,hg,h1,h2,h3,h4,h5,hp,w1,w2]) ?_|refine wf (by simpa [e1,e2,e3,hg,h1,h2,h3,h4,h5,hp,w1,w2]) ?_|refine xt (by simpa [e1,e2,e3,hg,h1,h2,h3,h4,h5,hp,w1,w2]) ?_|refine xf (by simpa [e1,e2,e3,hg,h1,h2,h3,h4,h5,hp,w1,w2]) ?_|refine wp_bs ?_|refine wp_b ?_|refine wp_sr ?_|refine wp_sx ?_|refine wp_ret' ?_|refine wp_skip' ?_|refine wp_exit' ?_)
      simp [zi177,h1,hp]
      rfl
    · refine call_of_wp zt177 rfl ?_
      repeat (first|refine wp_as ?_|refine wp_ss ?_|refine wr (by simp [e1,e2,e3,hg,h1,h2,h3,h4,h5,hp,w1,w2];with_reducible rfl) ?_|refine wq (by simp [e1,e2,e3,hg,h1,h2,h3,h4,h5,hp,w1,w2];with_reducible rfl) ?_|refine wt (by simpa [e1,e2,e3,hg,h1,h2,h3,h4,h5,hp,w1,w2]) ?_|refine wf (by simpa [e1,e2,e3,hg,h1,h2,h3,h4,h5,hp,w1,w2]) ?_|refine xt (by simpa [e1,e2,e3,hg,h1,h2,h3,h4,h5,hp,w1,w2]) ?_|refine xf (by simpa [e1,e2,e3,hg,h1,h2,h3,h4,h5,hp,w1,w2]) ?_|refine wp_bs ?_|refine wp_b ?_|refine wp_sr ?_|refine wp_sx ?_|refine wp_ret' ?_|refine wp_skip' ?_|refine wp_exit' ?_)
      simp [zi177,h1,hp]
theorem ev_IsTreeDegrees (d:List Int) (c:Bool) (hl:d.length≤1000000):Ev tb zl188 [] [L d c] [] ⟨Bo (treeD d),[],[],[]⟩:=by
  have e1:=ev_lim (ev_IsConnectable d c hl)
  unfold treeD
  cases hc:conn d with
  | false =>
    rw [hc] at e1
    refine call_of_wp zt188 rfl ?_
    repeat (first|refine wp_as ?_|refine wp_ss ?_|refine wr (by simp [e1];with_reducible rfl) ?_|refine wq (by simp [e1];with_reducible rfl) ?_|refine wt (by simpa [e1]) ?_|refine wf (by simpa [e1]) ?_|refine xt (by simpa [e1]) ?_|refine xf (by simpa [e1]) ?_|refine wp_bs ?_|refine wp_b ?_|refine wp_sr ?_|refine wp_sx ?_|refine wp_ret' ?_|refine wp_skip' ?_|refine wp_exit' ?_)
    simp [zi188]
  | true =>
  rw [hc] at e1
  have hg:graphic d=true:=by simp only [conn,Bool.and_eq_true] at hc;exact hc.1
  have hf:=valid_few (graphic_valid hg)
  have h7:=hf.1
  have e2:=ev_lim (ev_sum d c hf.small)
  have w1:IntKind.i64.wrap (2 * (d.length:Int))=2 * (d.length:Int):=wrap64 (by omega) (by omega)
  have w2:IntKind.i64.wrap (2 * (d.length:Int) - 2)=2 * (d.length:Int) - 2:=wrap64 (by omega) (by omega)
  refine call_of_wp zt188 rfl ?_
  repeat (first|refine wp_as ?_|refine wp_ss ?_|refine wr (by simp [e1,e2,w1,w2];with_reducible rfl) ?_|refine wq (by simp [e1,e2,w1,w2];with_reducible rfl) ?_|refine wt (by simpa [e1,e2,w1,w2]) ?_|refine wf (by simpa [e1,e2,w1,w2]) ?_|refine xt (by simpa [e1,e2,w1,w2]) ?_|refine xf (by simpa [e1,e2,w1,w2]) ?_|refine wp_bs ?_|refine wp_b ?_|refine wp_sr ?_|refine wp_sx ?_|refine wp_ret' ?_|refine wp_skip' ?_|refine wp_exit' ?_)
  simp [zi188]
  try rfl
end Go.Idl
namespace Go.Idl
open Go
theorem ev_IsConnected_0 (es:List (Int×Int)) (c:Bool) (v1:limF tb zl26 [] [Gr 0 es c] []=some ⟨Bo true,[],[],[]⟩):Ev tb zl178 [] [Gr 0 es c] [] ⟨Bo false,[],[],[]⟩:=by
  have e1:limF tb zl212 [] [I 0,I (-1)] []=some ⟨Z,[],[],[]⟩:=ev_lim (ev_indices 0 (-1) (by omega))
  have e2:limF tb zl172 [] [Gr 0 es c] []=some ⟨Z,[],[],[]⟩:=by
    refine ev_lim ?_
    refine call_of_wp zt172 rfl ?_
    repeat (first|apply wp_as|apply wp_ss|refine wr (by simp [e1];with_reducible rfl) ?_|refine wq (by simp [e1];with_reducible rfl) ?_|refine wt (by simpa [e1]) ?_|refine wf (by simpa [e1]) ?_|refine xt (by simpa [e1]) ?_|refine xf (by simpa [e1]) ?_|apply wp_bs|apply wp_b|refine wp_sr ?_|refine wp_sx ?_|refine wp_ret' ?_|refine wp_skip' ?_|refine wp_exit' ?_)
    refine wp_loop ?_
    repeat (first|apply wp_as|apply wp_ss|refine wr (by simp;with_reducible rfl) ?_|refine wq (by simp;with_reducible rfl) ?_|refine wt (by simpa) ?_|refine wf (by simpa) ?_|refine xt (by simpa) ?_|refine xf (by simpa) ?_|apply wp_bs|apply wp_b|refine wp_sr ?_|refine wp_sx ?_|refine wp_ret' ?_|refine wp_skip' ?_|refine wp_exit' ?_)
    simp [zi172]
  have e3:=ev_lim (ev_ClipT [])
  simp only [nlT] at e3
  have e4:limF tb zl170 [] [Gr 0 es c] []=some ⟨Z,[],[],[]⟩:=by
    refine ev_lim ?_
    refine call_of_wp zt170 rfl ?_
    repeat (first|apply wp_as|apply wp_ss|refine wr (by simp [e2];with_reducible rfl) ?_|refine wq (by simp [e2];with_reducible rfl) ?_|refine wt (by simpa [e2]) ?_|refine wf (by simpa [e2]) ?_|refine xt (by simpa [e2]) ?_|refine xf (by simpa [e2]) ?_|apply wp_bs|apply wp_b|refine wp_sr ?_|refine wp_sx ?_|refine wp_ret' ?_|refine wp_skip' ?_|refine wp_exit' ?_)
    refine wp_loop ?_
    repeat (first|apply wp_as|apply wp_ss|refine wr (by simp [e3];with_reducible rfl) ?_|refine wq (by simp [e3];with_reducible rfl) ?_|refine wt (by simpa [e3]) ?_|refine wf (by simpa [e3]) ?_|refine xt (by simpa [e3]) ?_|refine xf (by simpa [e3]) ?_|apply wp_bs|apply wp_b|refine wp_sr ?_|refine wp_sx ?_|refine wp_ret' ?_|refine wp_skip' ?_|refine wp_exit' ?_)
    simp [zi170]
  refine call_of_wp zt178 rfl ?_
  repeat (first|apply wp_as|apply wp_ss|refine wr (by simp [v1,e4];with_reducible rfl) ?_|refine wq (by simp [v1,e4];with_reducible rfl) ?_|refine wt (by simpa [v1,e4]) ?_|refine wf (by simpa [v1,e4]) ?_|refine xt (by simpa [v1,e4]) ?_|refine xf (by simpa [v1,e4]) ?_|apply wp_bs|apply wp_b|refine wp_sr ?_|refine wp_sx ?_|refine wp_ret' ?_|refine wp_skip' ?_|refine wp_exit' ?_)
  simp [zi178]
end Go.Idl
namespace Go.Idl
def insP (x:Nat×Nat):List (Nat×Nat)→List (Nat×Nat)
  | []=>[x]
  | y::r=>if Nat.ble y.1 x.1 then x::y::r else y::insP x r
def hh:Nat→List (Nat×Nat)→List (Nat×Nat)
  | 0,_=>[]
  | _+1,[]=>[]
  | m+1,x::r=>(r.take x.1).map (fun y:Nat×Nat=>(x.2,y.2))++hh m ((((r.take x.1).map (fun y:Nat×Nat=>(y.1 - 1,y.2))++r.drop x.1:List (Nat×Nat))).foldr insP [])
theorem inc_nonneg (v:Nat) (e:Int×Int):0≤inc v e:=by simp only [inc];split <;> split <;> decide
theorem ite_iff {α:Type} {p q:Prop} [Decidable p] [Decidable q] (h:p ↔ q) (a b:α):(if p then a else b)=if q then a else b:=by
  by_cases hp:p
  · rw [if_pos hp,if_pos (h.1 hp)]
  · rw [if_neg hp,if_neg fun hq=>hp (h.2 hq)]
def mk (u v:Nat):Int×Int:=(min (u:Int) v,max (u:Int) v)
end Go.Idl
