/- Part 6 of a proof by an ideal interpreter of the code: its definitions and lemmas. Conditions: none. -/
import Derived.KernelRfl
import Derived.Test.YteadaceimbjjcaaA5
set_option linter.all false
set_option linter.unusedVariables false
set_option linter.unusedSimpArgs false
namespace Go.Idl

open Go

def idxE (p : Int × Int → Bool) (i : Int) : List (Int × Int) → Int
  | [] => -1
  | x :: xs => if p x then i else idxE p (i + 1) xs

theorem idxE_spec (p : Int × Int → Bool) : ∀ (xs : List (Int × Int)) (i : Nat), (idxE p i xs = -1 ∧ ∀ x ∈ xs, p x = false) ∨ ∃ k : Nat, ∃ h : k < xs.length, idxE p i xs = ((i + k : Nat) : Int) ∧ p xs[k] = true ∧ ∀ x ∈ xs.take k, p x = false
  | [], i => .inl ⟨rfl, by simp⟩
  | x :: r, i => by
    cases hp : p x with
    | true => exact .inr ⟨0, by simp, by simp [idxE, hp], hp, by simp⟩
    | false =>
      rcases idxE_spec p r (i + 1) with ⟨h1, h2⟩ | ⟨k, hk, h1, h2, h3⟩
      · refine .inl ⟨?_, fun y hy => ?_⟩
        · simp only [idxE, hp, Bool.false_eq_true, if_false]; exact h1
        · rcases List.mem_cons.1 hy with rfl | hy
          · exact hp
          · exact h2 y hy
      · refine .inr ⟨k + 1, by simp; exact hk, ?_, h2, fun y hy => ?_⟩
        · simp only [idxE, hp, Bool.false_eq_true, if_false]
          rw [show ((i : Int) + 1) = ((i + 1 : Nat) : Int) by omega, h1]; omega
        · rw [List.take_succ_cons] at hy
          rcases List.mem_cons.1 hy with rfl | hy
          · exact hp
          · exact h3 y hy

end Go.Idl

namespace Go.Idl

open Go

/-- A small graph, valid or not. -/
structure SmallG (n : Int) (es : List (Int × Int)) : Prop where
  n1 : -1 ≤ n
  n2 : n ≤ 8
  len : es.length ≤ 60
  el : ∀ e ∈ es, -1 ≤ e.1 ∧ e.1 ≤ 8 ∧ -1 ≤ e.2 ∧ e.2 ≤ 8

theorem SmallG.fit {n es} (h : SmallG n es) : Fit es := fun e he => by have := h.el e he; omega

theorem good_small {n : Nat} {es : List (Int × Int)} (hn : n ≤ 7) (hs : es.Sublist (prs n)) : SmallG n es :=
  ⟨by omega, by omega, by have := prs_len hn hs; omega, fun e he => by have := prs_in hs e he; omega⟩

theorem small_set {n : Int} {es : List (Int × Int)} (h : SmallG n es) {k : Nat} {e : Int × Int} (he : -1 ≤ e.1 ∧ e.1 ≤ 8 ∧ -1 ≤ e.2 ∧ e.2 ≤ 8) : SmallG n (es.set k e) :=
  ⟨h.n1, h.n2, by rw [List.length_set]; exact h.len, fun x hx => by
    rcases List.mem_or_eq_of_mem_set hx with hx | rfl
    · exact h.el x hx
    · exact he⟩

theorem ev_someGraph (code : List Int) (c : Bool) (hc : CodeOk code) (cnt : Nat) (hn : cnt ≤ 80000) (A bs : Boxes) (Ms : List Boxes) :
    ∃ (n : Int) (es : List (Int × Int)) (k : Nat), SmallG n es ∧ k ≤ cnt + 110 ∧
      limF tb l_spec_someGraph [] [.bptr 0 A.length 0] ((A ++ R code c cnt :: bs) :: Ms) = some ⟨OG n es, [], (A ++ R code c k :: bs) :: Ms, []⟩ := by
  obtain ⟨n, es, k1, hn7, hs, hk1, e1⟩ := ev_goodGraphA code c hc cnt (by omega) A bs (Ms ++ [[]])
  have e1 := ev_lim e1
  have hS := good_small hn7 hs
  have hel := hS.len
  suffices hh : ∃ r, (∃ (n : Int) (es : List (Int × Int)) (k : Nat), SmallG n es ∧ k ≤ cnt + 110 ∧ r = ⟨OG n es, [], (A ++ R code c k :: bs) :: Ms, []⟩) ∧ Ev tb l_spec_someGraph [] [.bptr 0 A.length 0] ((A ++ R code c cnt :: bs) :: Ms) r by
    obtain ⟨r, ⟨n, es, k, q1, q2, rfl⟩, q3⟩ := hh
    exact ⟨n, es, k, q1, q2, ev_lim q3⟩
  refine call_ex tb_spec_someGraph rfl ?_
  by_cases h0 : es.length = 0
  · have h00 : es = [] := List.length_eq_zero_iff.1 h0
    subst h00
    repeat (first | apply wp_as | apply wp_ss | refine wr (by simp [e1]; with_reducible rfl) ?_ | refine wq (by simp [e1]; with_reducible rfl) ?_ | refine wt (by simpa [e1]) ?_ | refine wf (by simpa [e1]) ?_ | refine xt (by simpa [e1]) ?_ | refine xf (by simpa [e1]) ?_ | apply wp_bs | apply wp_b | refine wp_sr ?_ | refine wp_sx ?_ | refine wp_ret' ?_ | refine wp_skip' ?_ | refine wp_exit' ?_)
    refine ⟨.inr rfl, _, ⟨n, [], k1, hS, by omega, rfl⟩, ?_⟩
    simp [if_spec_someGraph]
  have h1 : (0 : Int) < es.length := by omega
  have h1' : 0 < es.length := by omega
  obtain ⟨v, k2, hv, hk2, e2⟩ := pickA code c hc k1 (by omega) (es.length : Int) (by omega) A bs (Ms ++ [[]])
  have hv := hv (by omega)
  have hvl : v < es.length := by omega
  obtain ⟨u, k3, -, hk3, e3⟩ := pickA code c hc k2 (by omega) 30 (by omega) A bs (Ms ++ [[]])
  have hev := hS.el es[v] (List.getElem_mem hvl)
  by_cases hu0 : u = 0
  · subst hu0
    obtain ⟨x, k4, hx, hk4, e4⟩ := oneA code c hc k3 (by omega) [-1, 7, es[v].2] (by simp) A bs (Ms ++ [[]])
    have hx : -1 ≤ x ∧ x ≤ 8 := by simp at hx; omega
    repeat (first | apply wp_as | apply wp_ss | refine wr (by simp [e1, e2, e3, h1, h1']; with_reducible rfl) ?_ | refine wq (by simp [e1, e2, e3, h1, h1']; with_reducible rfl) ?_ | refine wt (by simpa [e1, e2, e3, h1, h1']) ?_ | refine wf (by simpa [e1, e2, e3, h1, h1']) ?_ | refine xt (by simpa [e1, e2, e3, h1, h1']) ?_ | refine xf (by simpa [e1, e2, e3, h1, h1']) ?_ | apply wp_bs | apply wp_b | refine wp_sr ?_ | refine wp_sx ?_ | refine wp_ret' ?_ | refine wp_skip' ?_ | refine wp_exit' ?_)
    refine wp_rega (by simp [hvl, e4]; with_reducible rfl) (by simp; with_reducible rfl) ?_ ?_
    · intro p hp
      simp only [List.mem_cons, List.not_mem_nil, or_false] at hp
      rcases hp with rfl | rfl
      · exact ⟨_, by simp [hvl, e4]; with_reducible rfl, by simp⟩
      · exact ⟨_, by simp [hvl, e4]; with_reducible rfl, by simp⟩
    repeat (first | apply wp_as | apply wp_ss | refine wr (by simp; with_reducible rfl) ?_ | refine wq (by simp; with_reducible rfl) ?_ | refine wt (by simpa) ?_ | refine wf (by simpa) ?_ | refine xt (by simpa) ?_ | refine xf (by simpa) ?_ | apply wp_bs | apply wp_b | refine wp_sr ?_ | refine wp_sx ?_ | refine wp_ret' ?_ | refine wp_skip' ?_ | refine wp_exit' ?_)
    refine ⟨.inr rfl, _, ⟨n, es.set v (x, es[v].2), k4, small_set hS ⟨by omega, by omega, by omega, by omega⟩, by omega, rfl⟩, ?_⟩
    simp [if_spec_someGraph]
    rw [List.take_of_length_le (by simp)]
  by_cases hu1 : u = 1
  · subst hu1
    have hap : SmallG n (es ++ [es[v]]) := ⟨hS.n1, hS.n2, by have := prs_len hn7 hs; simp; omega, fun e he => by
      rcases List.mem_append.1 he with he | he
      · exact hS.el e he
      · simp at he; subst he; exact hev⟩
    have hlm : es.length + 1 ≤ 274877906944 := by omega
    repeat (first | apply wp_as | apply wp_ss | refine wr (by simp [e1, e2, e3, h1, h1']; with_reducible rfl) ?_ | refine wq (by simp [e1, e2, e3, h1, h1']; with_reducible rfl) ?_ | refine wt (by simpa [e1, e2, e3, h1, h1']) ?_ | refine wf (by simpa [e1, e2, e3, h1, h1']) ?_ | refine xt (by simpa [e1, e2, e3, h1, h1']) ?_ | refine xf (by simpa [e1, e2, e3, h1, h1']) ?_ | apply wp_bs | apply wp_b | refine wp_sr ?_ | refine wp_sx ?_ | refine wp_ret' ?_ | refine wp_skip' ?_ | refine wp_exit' ?_)
    refine wp_rega (by simp [hvl, hlm]; with_reducible rfl) (by simp; with_reducible rfl) ?_ ?_
    · intro p hp
      simp only [List.mem_cons, List.not_mem_nil, or_false] at hp
      subst hp
      exact ⟨_, by simp [hvl, hlm]; with_reducible rfl, by simp⟩
    repeat (first | apply wp_as | apply wp_ss | refine wr (by simp; with_reducible rfl) ?_ | refine wq (by simp; with_reducible rfl) ?_ | refine wt (by simpa) ?_ | refine wf (by simpa) ?_ | refine xt (by simpa) ?_ | refine xf (by simpa) ?_ | apply wp_bs | apply wp_b | refine wp_sr ?_ | refine wp_sx ?_ | refine wp_ret' ?_ | refine wp_skip' ?_ | refine wp_exit' ?_)
    refine ⟨.inr rfl, _, ⟨n, es ++ [es[v]], k3, hap, by omega, rfl⟩, ?_⟩
    simp [if_spec_someGraph]
    rw [List.take_of_length_le (by simp)]
  have hu0' : ¬ (u : Int) = 0 := by omega
  have hu1' : ¬ (u : Int) = 1 := by omega
  by_cases hu2 : u = 2
  · subst hu2
    obtain ⟨x, k4, hx, hk4, e4⟩ := oneA code c hc k3 (by omega) [-1, 8, 2] (by simp) A bs (Ms ++ [[]])
    have hx : -1 ≤ x ∧ x ≤ 8 := by simp at hx; omega
    repeat (first | apply wp_as | apply wp_ss | refine wr (by simp [e1, e2, e3, e4, h1, h1']; with_reducible rfl) ?_ | refine wq (by simp [e1, e2, e3, e4, h1, h1']; with_reducible rfl) ?_ | refine wt (by simpa [e1, e2, e3, e4, h1, h1']) ?_ | refine wf (by simpa [e1, e2, e3, e4, h1, h1']) ?_ | refine xt (by simpa [e1, e2, e3, e4, h1, h1']) ?_ | refine xf (by simpa [e1, e2, e3, e4, h1, h1']) ?_ | apply wp_bs | apply wp_b | refine wp_sr ?_ | refine wp_sx ?_ | refine wp_ret' ?_ | refine wp_skip' ?_ | refine wp_exit' ?_)
    refine ⟨.inr rfl, _, ⟨x, es, k4, ⟨hx.1, hx.2, hS.len, hS.el⟩, by omega, rfl⟩, ?_⟩
    simp [if_spec_someGraph]
  · have hu2' : ¬ (u : Int) = 2 := by omega
    repeat (first | apply wp_as | apply wp_ss | refine wr (by simp [e1, e2, e3, h1, h1', hu0, hu1, hu2, hu0', hu1', hu2']; with_reducible rfl) ?_ | refine wq (by simp [e1, e2, e3, h1, h1', hu0, hu1, hu2, hu0', hu1', hu2']; with_reducible rfl) ?_ | refine wt (by simpa [e1, e2, e3, h1, h1', hu0, hu1, hu2, hu0', hu1', hu2']) ?_ | refine wf (by simpa [e1, e2, e3, h1, h1', hu0, hu1, hu2, hu0', hu1', hu2']) ?_ | refine xt (by simpa [e1, e2, e3, h1, h1', hu0, hu1, hu2, hu0', hu1', hu2']) ?_ | refine xf (by simpa [e1, e2, e3, h1, h1', hu0, hu1, hu2, hu0', hu1', hu2']) ?_ | apply wp_bs | apply wp_b | refine wp_sr ?_ | refine wp_sx ?_ | refine wp_ret' ?_ | refine wp_skip' ?_ | refine wp_exit' ?_)
    refine ⟨.inr rfl, _, ⟨n, es, k3, hS, by omega, rfl⟩, ?_⟩
    simp [if_spec_someGraph]

end Go.Idl

namespace Go.Idl

open Go

theorem ev_IndexFuncE (e0 : Nat) (xs : List (Int × Int)) (c : Bool) (he0 : e0 = 2 ∨ xs = []) (F : Lab) (caps : List IV) (M : List Boxes) (p : Int × Int → Bool) (hl : xs.length ≤ 1000000)
    (hp : ∀ x ∈ xs, Ev tb F [] (.agg [I x.1, I x.2] :: caps) (M ++ [[]]) ⟨Bo (p x), [], M ++ [[]], []⟩) :
    Ev tb l_slices_IndexFunc_Simpl_Edge_impl_Edge_ [] [.lst e0 (eds xs) c, .fn F caps] M ⟨I (idxE p 0 xs), [], M, []⟩ := by
  have loop : ∀ (m i : Nat), i + m = xs.length → wp tb (.loop ic_slices_IndexFunc_Simpl_Edge_impl_Edge__l7) { T := [(0, .lst e0 (eds xs) c), (1, .fn F caps), (7, I xs.length), (8, I i)], loc := [], M := M }
      (fun ex st => (ex = .exit 0 ∧ idxE p i (xs.drop i) = -1 ∧ st = { T := [(0, .lst e0 (eds xs) c), (1, .fn F caps), (7, I xs.length), (8, I xs.length), (9, Bo false)], loc := [], M := M }) ∨
        ex = .ret ∧ st = { T := [(4, I (idxE p i (xs.drop i)))], loc := [], M := M }) := by
    intro m
    induction m with
    | zero =>
      intro i hi
      have h2 : xs.drop i = [] := List.drop_of_length_le (by omega)
      have h3 : i = xs.length := hi
      subst h3
      refine wp_loop ?_
      repeat (first | apply wp_as | apply wp_ss | refine wr (by simp; with_reducible rfl) ?_ | refine wq (by simp; with_reducible rfl) ?_ | refine wt (by simpa) ?_ | refine wf (by simpa) ?_ | refine xt (by simpa) ?_ | refine xf (by simpa) ?_ | apply wp_bs | apply wp_b | refine wp_sr ?_ | refine wp_sx ?_ | refine wp_ret' ?_ | refine wp_skip' ?_ | refine wp_exit' ?_)
      refine .inl ⟨rfl, by rw [h2]; rfl, rfl⟩
    | succ m ih =>
      intro i hi
      have hi2 : i < xs.length := by omega
      have he2 : e0 = 2 := by
        rcases he0 with h | h
        · exact h
        · rw [h] at hi2; cases hi2
      subst he2
      have h2 : xs.drop i = xs[i] :: xs.drop (i + 1) := List.drop_eq_getElem_cons hi2
      have e1 := ev_lim (hp _ (List.getElem_mem hi2))
      have w1 : IntKind.i64.wrap ((i : Int) + 1) = ((i + 1 : Nat) : Int) := wrapS (by omega)
      have gx : (eds xs)[i]'(by simpa using hi2) = [I xs[i].1, I xs[i].2] := by simp [eds]
      rw [h2]
      cases hpx : p xs[i] with
      | true =>
        refine wp_loop ?_
        repeat (first | apply wp_as | apply wp_ss | refine wr (by simp [e1, hi2, w1, hpx, gx]; with_reducible rfl) ?_ | refine wq (by simp [e1, hi2, w1, hpx, gx]; with_reducible rfl) ?_ | refine wt (by simpa [e1, hi2, w1, hpx, gx]) ?_ | refine wf (by simpa [e1, hi2, w1, hpx, gx]) ?_ | refine xt (by simpa [e1, hi2, w1, hpx, gx]) ?_ | refine xf (by simpa [e1, hi2, w1, hpx, gx]) ?_ | apply wp_bs | apply wp_b | refine wp_sr ?_ | refine wp_sx ?_ | refine wp_ret' ?_ | refine wp_skip' ?_ | refine wp_exit' ?_)
        refine .inr ⟨rfl, by simp [idxE, hpx]⟩
      | false =>
        refine wp_loop ?_
        repeat (first | apply wp_as | apply wp_ss | refine wr (by simp [e1, hi2, w1, hpx, gx]; with_reducible rfl) ?_ | refine wq (by simp [e1, hi2, w1, hpx, gx]; with_reducible rfl) ?_ | refine wt (by simpa [e1, hi2, w1, hpx, gx]) ?_ | refine wf (by simpa [e1, hi2, w1, hpx, gx]) ?_ | refine xt (by simpa [e1, hi2, w1, hpx, gx]) ?_ | refine xf (by simpa [e1, hi2, w1, hpx, gx]) ?_ | apply wp_bs | apply wp_b | refine wp_sr ?_ | refine wp_sx ?_ | refine wp_ret' ?_ | refine wp_skip' ?_ | refine wp_exit' ?_)
        have := ih (i + 1) (by omega)
        simp only [idxE, hpx] at this ⊢
        exact this
  refine call_of_wp tb_slices_IndexFunc_Simpl_Edge_impl_Edge_ rfl ?_
  repeat (first | apply wp_as | apply wp_ss | refine wr (by simp; with_reducible rfl) ?_ | refine wq (by simp; with_reducible rfl) ?_ | refine wt (by simpa) ?_ | refine wf (by simpa) ?_ | refine xt (by simpa) ?_ | refine xf (by simpa) ?_ | apply wp_bs | apply wp_b | refine wp_sr ?_ | refine wp_sx ?_ | refine wp_ret' ?_ | refine wp_skip' ?_ | refine wp_exit' ?_)
  refine wp_imp (loop xs.length 0 (by simp)) ?_
  rintro ex st (⟨rfl, h, rfl⟩ | ⟨rfl, rfl⟩)
  · simp only [if_true]
    repeat (first | apply wp_as | apply wp_ss | refine wr (by simp; with_reducible rfl) ?_ | refine wq (by simp; with_reducible rfl) ?_ | refine wt (by simpa) ?_ | refine wf (by simpa) ?_ | refine xt (by simpa) ?_ | refine xf (by simpa) ?_ | apply wp_bs | apply wp_b | refine wp_sr ?_ | refine wp_sx ?_ | refine wp_ret' ?_ | refine wp_skip' ?_ | refine wp_exit' ?_)
    simp at h
    simp [if_slices_IndexFunc_Simpl_Edge_impl_Edge_, h]
  · simp [if_slices_IndexFunc_Simpl_Edge_impl_Edge_]

theorem idxE_any (p : Int × Int → Bool) (xs : List (Int × Int)) : decide (0 ≤ idxE p 0 xs) = xs.any p := by
  rcases idxE_spec p xs 0 with ⟨h1, h2⟩ | ⟨k, hk, h1, h2, -⟩
  · rw [show ((0 : Nat) : Int) = 0 from rfl] at h1
    rw [h1]
    symm
    rw [show decide ((0 : Int) ≤ -1) = false from rfl, List.any_eq_false]
    exact fun x hx => by rw [h2 x hx]; simp
  · rw [show ((0 : Nat) : Int) = 0 from rfl] at h1
    rw [h1, decide_eq_true (by omega)]
    exact (List.any_eq_true.2 ⟨_, List.getElem_mem hk, h2⟩).symm

theorem ev_ContainsFuncE (e0 : Nat) (xs : List (Int × Int)) (c : Bool) (he0 : e0 = 2 ∨ xs = []) (F : Lab) (caps : List IV) (M : List Boxes) (p : Int × Int → Bool) (hl : xs.length ≤ 1000000)
    (hp : ∀ x ∈ xs, Ev tb F [] (.agg [I x.1, I x.2] :: caps) (M ++ [[]] ++ [[]]) ⟨Bo (p x), [], M ++ [[]] ++ [[]], []⟩) :
    Ev tb l_slices_ContainsFunc_Simpl_Edge_impl_Edge_ [] [.lst e0 (eds xs) c, .fn F caps] M ⟨Bo (xs.any p), [], M, []⟩ := by
  have e1 := ev_lim (ev_IndexFuncE e0 xs c he0 F caps (M ++ [[]]) p hl hp)
  rw [← idxE_any]
  generalize idxE p 0 xs = r at *
  refine call_of_wp tb_slices_ContainsFunc_Simpl_Edge_impl_Edge_ rfl ?_
  repeat (first | apply wp_as | apply wp_ss | refine wr (by simp [e1]; with_reducible rfl) ?_ | refine wq (by simp [e1]; with_reducible rfl) ?_ | refine wt (by simpa [e1]) ?_ | refine wf (by simpa [e1]) ?_ | refine xt (by simpa [e1]) ?_ | refine xf (by simpa [e1]) ?_ | apply wp_bs | apply wp_b | refine wp_sr ?_ | refine wp_sx ?_ | refine wp_ret' ?_ | refine wp_skip' ?_ | refine wp_exit' ?_)
  simp [if_slices_ContainsFunc_Simpl_Edge_impl_Edge_]

end Go.Idl

namespace Go.Idl

open Go

/-- The numbers below n but one, in order. -/
def idxB (n : Nat) (but : Int) : List Int := ((List.range n).map fun v : Nat => (v : Int)).filter fun v => decide (v ≠ but)

def nlI : List Int → IV
  | [] => Z
  | x :: r => O (x :: r)

theorem ev_indices (n : Nat) (but : Int) (hn : n ≤ 1000) : Ev tb l_impl_indices [] [I n, I but] [] ⟨nlI (idxB n but), [], [], []⟩ := by
  have loop : ∀ (m i : Nat), i + m = n → wp tb (.loop ic_impl_indices_l8) { T := [(1, I but), (5, nlI (idxB i but)), (7, I n), (8, I i)], loc := [], M := [] }
      (fun ex st => ex = .exit 0 ∧ st = { T := [(1, I but), (5, nlI (idxB n but)), (7, I n), (8, I n), (9, Bo false)], loc := [], M := [] }) := by
    intro m
    induction m with
    | zero =>
      intro i hi
      have h3 : i = n := hi
      subst h3
      cases idxB i but with
      | nil =>
        simp only [nlI]
        refine wp_loop ?_
        repeat (first | apply wp_as | apply wp_ss | refine wr (by simp; with_reducible rfl) ?_ | refine wq (by simp; with_reducible rfl) ?_ | refine wt (by simpa) ?_ | refine wf (by simpa) ?_ | refine xt (by simpa) ?_ | refine xf (by simpa) ?_ | apply wp_bs | apply wp_b | refine wp_sr ?_ | refine wp_sx ?_ | refine wp_ret' ?_ | refine wp_skip' ?_ | refine wp_exit' ?_)
        exact ⟨rfl, rfl⟩
      | cons x r =>
        simp only [nlI]
        refine wp_loop ?_
        repeat (first | apply wp_as | apply wp_ss | refine wr (by simp; with_reducible rfl) ?_ | refine wq (by simp; with_reducible rfl) ?_ | refine wt (by simpa) ?_ | refine wf (by simpa) ?_ | refine xt (by simpa) ?_ | refine xf (by simpa) ?_ | apply wp_bs | apply wp_b | refine wp_sr ?_ | refine wp_sx ?_ | refine wp_ret' ?_ | refine wp_skip' ?_ | refine wp_exit' ?_)
        exact ⟨rfl, rfl⟩
    | succ m ih =>
      intro i hi
      have hi2 : i < n := by omega
      have w2 : IntKind.i64.wrap ((i : Int) + 1) = ((i + 1 : Nat) : Int) := wrapS (by omega)
      have hn2 := ih (i + 1) (by omega)
      have hs : idxB (i + 1) but = idxB i but ++ if (i : Int) = but then [] else [(i : Int)] := by
        simp only [idxB, List.range_succ, List.map_append, List.map_cons, List.map_nil, List.filter_append, List.filter_cons, List.filter_nil]
        congr 1
        by_cases h : (i : Int) = but <;> simp [h]
      rw [hs] at hn2
      have hal : (idxB i but).length ≤ i := Nat.le_trans (List.length_filter_le _ _) (by simp)
      generalize idxB i but = A at *
      by_cases hb : but = (i : Int)
      · subst hb
        rw [if_pos rfl, List.append_nil] at hn2
        cases A with
        | nil =>
          rw [show nlI [] = Z from rfl] at hn2 ⊢
          refine wp_loop ?_
          repeat (first | apply wp_as | apply wp_ss | refine wr (by simp [hi2, w2]; with_reducible rfl) ?_ | refine wq (by simp [hi2, w2]; with_reducible rfl) ?_ | refine wt (by simpa [hi2, w2]) ?_ | refine wf (by simpa [hi2, w2]) ?_ | refine xt (by simpa [hi2, w2]) ?_ | refine xf (by simpa [hi2, w2]) ?_ | apply wp_bs | apply wp_b | refine wp_sr ?_ | refine wp_sx ?_ | refine wp_ret' ?_ | refine wp_skip' ?_ | refine wp_exit' ?_)
          exact hn2
        | cons x r =>
          rw [show nlI (x :: r) = O (x :: r) from rfl] at hn2 ⊢
          refine wp_loop ?_
          repeat (first | apply wp_as | apply wp_ss | refine wr (by simp [hi2, w2]; with_reducible rfl) ?_ | refine wq (by simp [hi2, w2]; with_reducible rfl) ?_ | refine wt (by simpa [hi2, w2]) ?_ | refine wf (by simpa [hi2, w2]) ?_ | refine xt (by simpa [hi2, w2]) ?_ | refine xf (by simpa [hi2, w2]) ?_ | apply wp_bs | apply wp_b | refine wp_sr ?_ | refine wp_sx ?_ | refine wp_ret' ?_ | refine wp_skip' ?_ | refine wp_exit' ?_)
          exact hn2
      · have hb' : ¬ (i : Int) = but := fun h => hb h.symm
        rw [if_neg hb'] at hn2
        cases A with
        | nil =>
          rw [List.nil_append, show nlI [(i : Int)] = O [(i : Int)] from rfl] at hn2
          rw [show nlI [] = Z from rfl]
          refine wp_loop ?_
          repeat (first | apply wp_as | apply wp_ss | refine wr (by simp [hi2, w2, hb']; with_reducible rfl) ?_ | refine wq (by simp [hi2, w2, hb']; with_reducible rfl) ?_ | refine wt (by simpa [hi2, w2, hb']) ?_ | refine wf (by simpa [hi2, w2, hb']) ?_ | refine xt (by simpa [hi2, w2, hb']) ?_ | refine xf (by simpa [hi2, w2, hb']) ?_ | apply wp_bs | apply wp_b | refine wp_sr ?_ | refine wp_sx ?_ | refine wp_ret' ?_ | refine wp_skip' ?_ | refine wp_exit' ?_)
          exact hn2
        | cons x r =>
          rw [show nlI (x :: r ++ [(i : Int)]) = O (x :: r ++ [(i : Int)]) from rfl] at hn2
          rw [show nlI (x :: r) = O (x :: r) from rfl]
          have hal1 : r.length + 1 + 1 ≤ 274877906944 := by simp at hal; omega
          have hat : (x :: r).take (r.length + 1) = x :: r := List.take_of_length_le (by simp)
          refine wp_loop ?_
          repeat (first | apply wp_as | apply wp_ss | refine wr (by simp [hi2, w2, hb', hal1, hat]; with_reducible rfl) ?_ | refine wq (by simp [hi2, w2, hb', hal1, hat]; with_reducible rfl) ?_ | refine wt (by simpa [hi2, w2, hb', hal1, hat]) ?_ | refine wf (by simpa [hi2, w2, hb', hal1, hat]) ?_ | refine xt (by simpa [hi2, w2, hb', hal1, hat]) ?_ | refine xf (by simpa [hi2, w2, hb', hal1, hat]) ?_ | apply wp_bs | apply wp_b | refine wp_sr ?_ | refine wp_sx ?_ | refine wp_ret' ?_ | refine wp_skip' ?_ | refine wp_exit' ?_)
          exact hn2
  refine call_of_wp tb_impl_indices rfl ?_
  repeat (first | apply wp_as | apply wp_ss | refine wr (by simp; with_reducible rfl) ?_ | refine wq (by simp; with_reducible rfl) ?_ | refine wt (by simpa) ?_ | refine wf (by simpa) ?_ | refine xt (by simpa) ?_ | refine xf (by simpa) ?_ | apply wp_bs | apply wp_b | refine wp_sr ?_ | refine wp_sx ?_ | refine wp_ret' ?_ | refine wp_skip' ?_ | refine wp_exit' ?_)
  refine wp_imp (loop n 0 (by simp)) ?_
  rintro ex st ⟨rfl, rfl⟩
  try simp only [if_true]
  cases idxB n but with
  | nil =>
    simp only [nlI]
    repeat (first | apply wp_as | apply wp_ss | refine wr (by simp; with_reducible rfl) ?_ | refine wq (by simp; with_reducible rfl) ?_ | refine wt (by simpa) ?_ | refine wf (by simpa) ?_ | refine xt (by simpa) ?_ | refine xf (by simpa) ?_ | apply wp_bs | apply wp_b | refine wp_sr ?_ | refine wp_sx ?_ | refine wp_ret' ?_ | refine wp_skip' ?_ | refine wp_exit' ?_)
    simp [if_impl_indices]
  | cons x r =>
    simp only [nlI]
    repeat (first | apply wp_as | apply wp_ss | refine wr (by simp; with_reducible rfl) ?_ | refine wq (by simp; with_reducible rfl) ?_ | refine wt (by simpa) ?_ | refine wf (by simpa) ?_ | refine xt (by simpa) ?_ | refine xf (by simpa) ?_ | apply wp_bs | apply wp_b | refine wp_sr ?_ | refine wp_sx ?_ | refine wp_ret' ?_ | refine wp_skip' ?_ | refine wp_exit' ?_)
    simp [if_impl_indices]

end Go.Idl

namespace Go.Idl

open Go

theorem idxB_all (n : Nat) : idxB n (-1) = (List.range n).map fun v : Nat => (v : Int) := by
  rw [idxB]
  refine List.filter_eq_self.2 fun x hx => ?_
  obtain ⟨v, _, rfl⟩ := List.mem_map.1 hx
  simp

end Go.Idl

namespace Go.Idl

open Go

/-- A neighbour of u that is none of v. -/
def wiB (h : Int → Int → Bool) (u v x : Int) : Bool := decide (x ≠ u) && decide (x ≠ v) && h u x && !h v x

def wi (n : Nat) (h : Int → Int → Bool) (u v : Int) : Bool := !((idxB n (-1)).any (wiB h u v))

def neP (n : Nat) (h : Int → Int → Bool) (e : Int × Int) : Bool := !wi n h e.1 e.2 && !wi n h e.2 e.1

/-- Of each two vertices one has all neighbours of the other. -/
def nest (n : Nat) (h : Int → Int → Bool) : Bool := !((prs n).any (neP n h))

theorem ev_nf11 (n : Int) (e0 : Nat) (es : List (Int × Int)) (c : Bool) (he0 : e0 = 2 ∨ es = []) (hl : es.length ≤ 1000) (b1 : List IV) (L2' L3 L4 : Boxes) (u v x : Int) :
    Ev tb l_impl_IsNested_F1_F1 [] [I x, .bptr 4 0 0, .bptr 4 1 0, .bptr 0 0 0] [[[I n, .lst e0 (eds es) c], b1], L2', L3, L4, [[I u], [I v]], [], []]
      ⟨Bo (wiB (hasM es) u v x), [], [[[I n, .lst e0 (eds es) c], b1], L2', L3, L4, [[I u], [I v]], [], []], []⟩ := by
  have eh := fun c a b M => ev_lim (ev_has n e0 es c a b he0 (by omega) M)
  by_cases h1 : x = u
  · subst h1
    refine call_of_wp tb_impl_IsNested_F1_F1 rfl ?_
    repeat (first | apply wp_as | apply wp_ss | refine wr (by simp; with_reducible rfl) ?_ | refine wq (by simp; with_reducible rfl) ?_ | refine wt (by simpa) ?_ | refine wf (by simpa) ?_ | refine xt (by simpa) ?_ | refine xf (by simpa) ?_ | apply wp_bs | apply wp_b | refine wp_sr ?_ | refine wp_sx ?_ | refine wp_ret' ?_ | refine wp_skip' ?_ | refine wp_exit' ?_)
    simp [if_impl_IsNested_F1_F1, wiB]
  by_cases h2 : x = v
  · subst h2
    refine call_of_wp tb_impl_IsNested_F1_F1 rfl ?_
    repeat (first | apply wp_as | apply wp_ss | refine wr (by simp [h1]; with_reducible rfl) ?_ | refine wq (by simp [h1]; with_reducible rfl) ?_ | refine wt (by simpa [h1]) ?_ | refine wf (by simpa [h1]) ?_ | refine xt (by simpa [h1]) ?_ | refine xf (by simpa [h1]) ?_ | apply wp_bs | apply wp_b | refine wp_sr ?_ | refine wp_sx ?_ | refine wp_ret' ?_ | refine wp_skip' ?_ | refine wp_exit' ?_)
    simp [if_impl_IsNested_F1_F1, wiB]
  have hw : wiB (hasM es) u v x = (hasM es u x && !hasM es v x) := by simp [wiB, h1, h2]
  rw [hw]
  cases k1 : hasM es u x with
  | false =>
    refine call_of_wp tb_impl_IsNested_F1_F1 rfl ?_
    repeat (first | apply wp_as | apply wp_ss | refine wr (by simp [h1, h2, eh, k1]; with_reducible rfl) ?_ | refine wq (by simp [h1, h2, eh, k1]; with_reducible rfl) ?_ | refine wt (by simpa [h1, h2, eh, k1]) ?_ | refine wf (by simpa [h1, h2, eh, k1]) ?_ | refine xt (by simpa [h1, h2, eh, k1]) ?_ | refine xf (by simpa [h1, h2, eh, k1]) ?_ | apply wp_bs | apply wp_b | refine wp_sr ?_ | refine wp_sx ?_ | refine wp_ret' ?_ | refine wp_skip' ?_ | refine wp_exit' ?_)
    simp [if_impl_IsNested_F1_F1]
  | true =>
    refine call_of_wp tb_impl_IsNested_F1_F1 rfl ?_
    repeat (first | apply wp_as | apply wp_ss | refine wr (by simp [h1, h2, eh, k1]; with_reducible rfl) ?_ | refine wq (by simp [h1, h2, eh, k1]; with_reducible rfl) ?_ | refine wt (by simpa [h1, h2, eh, k1]) ?_ | refine wf (by simpa [h1, h2, eh, k1]) ?_ | refine xt (by simpa [h1, h2, eh, k1]) ?_ | refine xf (by simpa [h1, h2, eh, k1]) ?_ | apply wp_bs | apply wp_b | refine wp_sr ?_ | refine wp_sx ?_ | refine wp_ret' ?_ | refine wp_skip' ?_ | refine wp_exit' ?_)
    simp [if_impl_IsNested_F1_F1]

theorem idx_any (p : Int → Bool) (xs : List Int) : decide (0 ≤ idx p 0 xs) = xs.any p := idx_ge p xs 0 (by omega)

theorem ev_nf1 (n : Nat) (hn : n ≤ 7) (hn1 : 1 ≤ n) (e0 : Nat) (es : List (Int × Int)) (c : Bool) (he0 : e0 = 2 ∨ es = []) (hl : es.length ≤ 1000) (b1 : List IV) (L2' L3 L4 : Boxes) (u v : Int) :
    Ev tb l_impl_IsNested_F1 [] [I u, I v, .bptr 0 0 0] [[[I n, .lst e0 (eds es) c], b1], L2', L3, L4]
      ⟨Bo (wi n (hasM es) u v), [], [[[I n, .lst e0 (eds es) c], b1], L2', L3, L4], []⟩ := by
  have e1 := ev_lim (ev_indices n (-1) (by omega))
  have hil : (idxB n (-1)).length ≤ 7 := by rw [idxB_all]; simp; omega
  have e2 := fun c' => ev_lim (ev_ContainsFunc (idxB n (-1)) c' l_impl_IsNested_F1_F1 [.bptr 4 0 0, .bptr 4 1 0, .bptr 0 0 0] [[[I n, .lst e0 (eds es) c], b1], L2', L3, L4, [[I u], [I v]]] (wiB (hasM es) u v) (by omega) (fun x _ => ev_nf11 n e0 es c he0 hl b1 L2' L3 L4 u v x))
  rw [idx_any] at e2
  rw [wi]
  generalize (idxB n (-1)).any (wiB (hasM es) u v) = r at *
  cases hT : idxB n (-1) with
  | nil =>
    rw [idxB_all] at hT
    have := congrArg List.length hT
    simp at this
    omega
  | cons t T =>
    rw [hT] at e1 e2
    simp only [nlI] at e1
    refine call_of_wp tb_impl_IsNested_F1 rfl ?_
    repeat (first | apply wp_as | apply wp_ss | refine wr (by simp [e1, e2]; with_reducible rfl) ?_ | refine wq (by simp [e1, e2]; with_reducible rfl) ?_ | refine wt (by simpa [e1, e2]) ?_ | refine wf (by simpa [e1, e2]) ?_ | refine xt (by simpa [e1, e2]) ?_ | refine xf (by simpa [e1, e2]) ?_ | apply wp_bs | apply wp_b | refine wp_sr ?_ | refine wp_sx ?_ | refine wp_ret' ?_ | refine wp_skip' ?_ | refine wp_exit' ?_)
    simp [if_impl_IsNested_F1]

theorem ev_nf2 (n : Nat) (hn : n ≤ 7) (hn1 : 1 ≤ n) (e0 : Nat) (es : List (Int × Int)) (c : Bool) (he0 : e0 = 2 ∨ es = []) (hl : es.length ≤ 1000) (L2' L3 : Boxes) (e : Int × Int) :
    Ev tb l_impl_IsNested_F2 [] [.agg [I e.1, I e.2], .bptr 0 1 0] [[[I n, .lst e0 (eds es) c], [.fn l_impl_IsNested_F1 [.bptr 0 0 0]]], L2', L3]
      ⟨Bo (neP n (hasM es) e), [], [[[I n, .lst e0 (eds es) c], [.fn l_impl_IsNested_F1 [.bptr 0 0 0]]], L2', L3], []⟩ := by
  have e1 := fun u v => ev_lim (ev_nf1 n hn hn1 e0 es c he0 hl [.fn l_impl_IsNested_F1 [.bptr 0 0 0]] L2' L3 [[I e.1, I e.2]] u v)
  rw [neP]
  cases k1 : wi n (hasM es) e.1 e.2 with
  | true =>
    refine call_of_wp tb_impl_IsNested_F2 rfl ?_
    repeat (first | apply wp_as | apply wp_ss | refine wr (by simp [e1, k1]; with_reducible rfl) ?_ | refine wq (by simp [e1, k1]; with_reducible rfl) ?_ | refine wt (by simpa [e1, k1]) ?_ | refine wf (by simpa [e1, k1]) ?_ | refine xt (by simpa [e1, k1]) ?_ | refine xf (by simpa [e1, k1]) ?_ | apply wp_bs | apply wp_b | refine wp_sr ?_ | refine wp_sx ?_ | refine wp_ret' ?_ | refine wp_skip' ?_ | refine wp_exit' ?_)
    simp [if_impl_IsNested_F2]
  | false =>
    refine call_of_wp tb_impl_IsNested_F2 rfl ?_
    repeat (first | apply wp_as | apply wp_ss | refine wr (by simp [e1, k1]; with_reducible rfl) ?_ | refine wq (by simp [e1, k1]; with_reducible rfl) ?_ | refine wt (by simpa [e1, k1]) ?_ | refine wf (by simpa [e1, k1]) ?_ | refine xt (by simpa [e1, k1]) ?_ | refine xf (by simpa [e1, k1]) ?_ | apply wp_bs | apply wp_b | refine wp_sr ?_ | refine wp_sx ?_ | refine wp_ret' ?_ | refine wp_skip' ?_ | refine wp_exit' ?_)
    simp [if_impl_IsNested_F2]

theorem ev_IsNested (n : Nat) (e0 : Nat) (es : List (Int × Int)) (c : Bool) (he0 : e0 = 2 ∨ es = []) (hl : es.length ≤ 1000) (hv : vGraph n es = true) (e1 : limF tb l_impl_ValidGraph [] [.agg [I n, .lst e0 (eds es) c]] [] = some ⟨Bo true, [], [], []⟩) :
    Ev tb l_impl_IsNested [] [.agg [I n, .lst e0 (eds es) c]] [] ⟨Bo (nest n (hasM es)), [], [], []⟩ := by
  have hn7 := (vG_iff.1 hv).2.2
  have e2 := ev_lim (ev_impl_pairs n (by omega))
  have hpl : (prs n).length ≤ 1000 := by
    have h2 : ∀ n, n ≤ 7 → (prs n).length ≤ 21 := by decide +kernel
    have := h2 _ hn7
    omega
  rw [nest]
  cases hP : prs n with
  | nil =>
    rw [hP] at e2
    rw [nl2_nil] at e2
    have e3 := fun p => ev_lim (ev_ContainsFuncE 0 [] true (.inr rfl) l_impl_IsNested_F2 [.bptr 0 1 0] [[[I n, .lst e0 (eds es) c], [.fn l_impl_IsNested_F1 [.bptr 0 0 0]]]] p (by simp) (fun x hx => by cases hx))
    have e3 := e3 (neP n (hasM es))
    simp only [eds_nil, List.any_nil] at e3
    refine call_of_wp tb_impl_IsNested rfl ?_
    repeat (first | apply wp_as | apply wp_ss | refine wr (by simp [e1, e2, e3]; with_reducible rfl) ?_ | refine wq (by simp [e1, e2, e3]; with_reducible rfl) ?_ | refine wt (by simpa [e1, e2, e3]) ?_ | refine wf (by simpa [e1, e2, e3]) ?_ | refine xt (by simpa [e1, e2, e3]) ?_ | refine xf (by simpa [e1, e2, e3]) ?_ | apply wp_bs | apply wp_b | refine wp_sr ?_ | refine wp_sx ?_ | refine wp_ret' ?_ | refine wp_skip' ?_ | refine wp_exit' ?_)
    simp [if_impl_IsNested]
  | cons q Q =>
    have hn1 : 1 ≤ n := by
      have : q ∈ prs n := by rw [hP]; simp
      have := mem_prs.1 this
      omega
    rw [hP] at e2 hpl
    rw [nl2_cons] at e2
    have e3 := fun cc => ev_lim (ev_ContainsFuncE 2 (q :: Q) cc (.inl rfl) l_impl_IsNested_F2 [.bptr 0 1 0] [[[I n, .lst e0 (eds es) c], [.fn l_impl_IsNested_F1 [.bptr 0 0 0]]]] (neP n (hasM es)) (by omega) (fun x _ => ev_nf2 n hn7 hn1 e0 es c he0 hl [] [] x))
    generalize (q :: Q).any (neP n (hasM es)) = r at *
    refine call_of_wp tb_impl_IsNested rfl ?_
    repeat (first | apply wp_as | apply wp_ss | refine wr (by simp [e1, e2, e3]; with_reducible rfl) ?_ | refine wq (by simp [e1, e2, e3]; with_reducible rfl) ?_ | refine wt (by simpa [e1, e2, e3]) ?_ | refine wf (by simpa [e1, e2, e3]) ?_ | refine xt (by simpa [e1, e2, e3]) ?_ | refine xf (by simpa [e1, e2, e3]) ?_ | apply wp_bs | apply wp_b | refine wp_sr ?_ | refine wp_sx ?_ | refine wp_ret' ?_ | refine wp_skip' ?_ | refine wp_exit' ?_)
    simp [if_impl_IsNested]

theorem ev_IsNested_no (n : Int) (es : List (Int × Int)) (c : Bool) (hf : Fit es) (hl : es.length ≤ 1000) (hv : vGraph n es = false) :
    Ev tb l_impl_IsNested [] [Gr n es c] [] ⟨Bo false, [], [], []⟩ := by
  have e1 := ev_lim (ev_ValidGraph n es c hf (by omega))
  rw [hv] at e1
  refine call_of_wp tb_impl_IsNested rfl ?_
  repeat (first | apply wp_as | apply wp_ss | refine wr (by simp [e1]; with_reducible rfl) ?_ | refine wq (by simp [e1]; with_reducible rfl) ?_ | refine wt (by simpa [e1]) ?_ | refine wf (by simpa [e1]) ?_ | refine xt (by simpa [e1]) ?_ | refine xf (by simpa [e1]) ?_ | apply wp_bs | apply wp_b | refine wp_sr ?_ | refine wp_sx ?_ | refine wp_ret' ?_ | refine wp_skip' ?_ | refine wp_exit' ?_)
  simp [if_impl_IsNested]

end Go.Idl

namespace Go.Idl

open Go

theorem mv_toA (n : Nat) (hn : n ≤ 7) (es : List (Int × Int)) (c : Bool) (A B : Boxes) (Ms : List Boxes) : ∀ (m i : Nat), i + m = n →
    wp tb (.loop ic_spec_moved_l6) { T := [(0, .bptr 0 A.length 0), (3, .bptr (Ms.length + 1) 0 0), (4, .bptr (Ms.length + 1) 1 0), (5, O (rI i)), (6, I i)], loc := [[I n, L2 es c], [I 0, Z]], M := B :: Ms }
      (fun ex st => ex = .exit 0 ∧ st = { T := [(0, .bptr 0 A.length 0), (3, .bptr (Ms.length + 1) 0 0), (4, .bptr (Ms.length + 1) 1 0), (5, O (rI n)), (6, I n), (16, Bo false)], loc := [[I n, L2 es c], [I 0, Z]], M := B :: Ms }) := by
  intro m
  induction m with
  | zero =>
    intro i hi
    have h3 : i = n := hi
    subst h3
    refine wp_loop ?_
    repeat (first | apply wp_as | apply wp_ss | refine wr (by simp; with_reducible rfl) ?_ | refine wq (by simp; with_reducible rfl) ?_ | refine wt (by simpa) ?_ | refine wf (by simpa) ?_ | refine xt (by simpa) ?_ | refine xf (by simpa) ?_ | apply wp_bs | apply wp_b | refine wp_sr ?_ | refine wp_sx ?_ | refine wp_ret' ?_ | refine wp_skip' ?_ | refine wp_exit' ?_)
    exact ⟨rfl, rfl⟩
  | succ m ih =>
    intro i hi
    have hi2 : i < n := by omega
    have w2 : IntKind.i64.wrap ((i : Int) + 1) = ((i + 1 : Nat) : Int) := wrapS (by omega)
    have hn2 := ih (i + 1) (by omega)
    rw [rI_succ] at hn2
    have hal := rI_len i
    generalize rI i = A at *
    have hl1 : i + 1 ≤ 274877906944 := by omega
    have hT : A.take i = A := List.take_of_length_le (by omega)
    refine wp_loop ?_
    repeat (first | apply wp_as | apply wp_ss | refine wr (by simp [hi2, w2, hal, hl1, hT]; with_reducible rfl) ?_ | refine wq (by simp [hi2, w2, hal, hl1, hT]; with_reducible rfl) ?_ | refine wt (by simpa [hi2, w2, hal, hl1, hT]) ?_ | refine wf (by simpa [hi2, w2, hal, hl1, hT]) ?_ | refine xt (by simpa [hi2, w2, hal, hl1, hT]) ?_ | refine xf (by simpa [hi2, w2, hal, hl1, hT]) ?_ | apply wp_bs | apply wp_b | refine wp_sr ?_ | refine wp_sx ?_ | refine wp_ret' ?_ | refine wp_skip' ?_ | refine wp_exit' ?_)
    exact hn2

theorem mv_swA (code : List Int) (c0 : Bool) (hc : CodeOk code) (n : Nat) (hn : n ≤ 7) (es : List (Int × Int)) (c : Bool) (A bs : Boxes) (Ms : List Boxes) : ∀ (m i cnt : Nat) (to : List Int), i + m = n → to.length = n → (∀ x ∈ to, 0 ≤ x ∧ x < n) → cnt + m ≤ 900000 →
    wp tb (.loop ic_spec_moved_l14) { T := [(0, .bptr 0 A.length 0), (3, .bptr (Ms.length + 1) 0 0), (4, .bptr (Ms.length + 1) 1 0), (5, O to), (7, I i)], loc := [[I n, L2 es c], [I 0, Z]], M := (A ++ R code c0 cnt :: bs) :: Ms }
      (fun ex st => ex = .exit 2 ∧ ∃ (to : List Int) (k : Nat), (to.length = n ∧ (∀ x ∈ to, 0 ≤ x ∧ x < n) ∧ k ≤ cnt + m) ∧ st = { T := [(0, .bptr 0 A.length 0), (3, .bptr (Ms.length + 1) 0 0), (4, .bptr (Ms.length + 1) 1 0), (5, O to), (7, I n), (26, Bo false)], loc := [[I n, L2 es c], [I 0, Z]], M := (A ++ R code c0 k :: bs) :: Ms }) := by
  intro m
  induction m with
  | zero =>
    intro i cnt to hi hl hb hk
    have h3 : i = n := hi
    subst h3
    refine wp_loop ?_
    repeat (first | apply wp_as | apply wp_ss | refine wr (by simp; with_reducible rfl) ?_ | refine wq (by simp; with_reducible rfl) ?_ | refine wt (by simpa) ?_ | refine wf (by simpa) ?_ | refine xt (by simpa) ?_ | refine xf (by simpa) ?_ | apply wp_bs | apply wp_b | refine wp_sr ?_ | refine wp_sx ?_ | refine wp_ret' ?_ | refine wp_skip' ?_ | refine wp_exit' ?_)
    exact ⟨rfl, to, cnt, ⟨hl, hb, by omega⟩, rfl⟩
  | succ m ih =>
    intro i cnt to hi hl hb hk
    have hi2 : i < n := by omega
    have hil : i < to.length := by omega
    obtain ⟨v, k, hv, hk2, e1⟩ := pickA code c0 hc cnt (by omega) (n : Int) (by omega) A bs (Ms ++ [[[I n, L2 es c], [I 0, Z]]])
    have hv := hv (by omega)
    have hvn : v < n := by omega
    have hvl : v < to.length := by omega
    have w2 : IntKind.i64.wrap ((i : Int) + 1) = ((i + 1 : Nat) : Int) := wrapS (by omega)
    have hi3 := hb _ (List.getElem_mem hil)
    have hv3 := hb _ (List.getElem_mem hvl)
    have hn2 := ih (i + 1) k ((to.set i to[v]).set v to[i]) (by omega) (by simpa using hl) (fun x hx => by
      rcases List.mem_or_eq_of_mem_set hx with hx | rfl
      · rcases List.mem_or_eq_of_mem_set hx with hx | rfl
        · exact hb x hx
        · exact hv3
      · exact hi3) (by omega)
    refine wp_loop ?_
    repeat (first | apply wp_as | apply wp_ss | refine wr (by simp [hi2, hil, hvn, hvl, hl, e1, w2]; with_reducible rfl) ?_ | refine wq (by simp [hi2, hil, hvn, hvl, hl, e1, w2]; with_reducible rfl) ?_ | refine wt (by simpa [hi2, hil, hvn, hvl, hl, e1, w2]) ?_ | refine wf (by simpa [hi2, hil, hvn, hvl, hl, e1, w2]) ?_ | refine xt (by simpa [hi2, hil, hvn, hvl, hl, e1, w2]) ?_ | refine xf (by simpa [hi2, hil, hvn, hvl, hl, e1, w2]) ?_ | apply wp_bs | apply wp_b | refine wp_sr ?_ | refine wp_sx ?_ | refine wp_ret' ?_ | refine wp_skip' ?_ | refine wp_exit' ?_)
    refine wp_imp hn2 ?_
    rintro ex st ⟨rfl, to', k', ⟨h1, h2, h3⟩, rfl⟩
    exact ⟨rfl, to', k', ⟨h1, h2, by omega⟩, rfl⟩

theorem ev_movedA (code : List Int) (c0 : Bool) (hc : CodeOk code) (cnt : Nat) (hcn : cnt ≤ 80000) (n : Nat) (hn : n ≤ 7) (es : List (Int × Int)) (c : Bool) (hes : EdgesIn n es) (hel : es.length ≤ 100) (A bs : Boxes) (Ms : List Boxes) :
    ∃ (out : List (Int × Int)) (k : Nat), out.length = es.length ∧ EdgesIn n out ∧ k ≤ cnt + 10 ∧
      limF tb l_spec_moved [] [.bptr 0 A.length 0, Gr n es c] ((A ++ R code c0 cnt :: bs) :: Ms) = some ⟨OG n out, [], (A ++ R code c0 k :: bs) :: Ms, []⟩ := by
  suffices hh : ∃ r, (∃ (out : List (Int × Int)) (k : Nat), out.length = es.length ∧ EdgesIn n out ∧ k ≤ cnt + 10 ∧ r = ⟨OG n out, [], (A ++ R code c0 k :: bs) :: Ms, []⟩) ∧ Ev tb l_spec_moved [] [.bptr 0 A.length 0, Gr n es c] ((A ++ R code c0 cnt :: bs) :: Ms) r by
    obtain ⟨r, ⟨out, k, q1, q2, q3, rfl⟩, q4⟩ := hh
    exact ⟨out, k, q1, q2, q3, ev_lim q4⟩
  refine call_ex tb_spec_moved rfl ?_
  repeat (first | apply wp_as | apply wp_ss | refine wr (by simp; with_reducible rfl) ?_ | refine wq (by simp; with_reducible rfl) ?_ | refine wt (by simpa) ?_ | refine wf (by simpa) ?_ | refine xt (by simpa) ?_ | refine xf (by simpa) ?_ | apply wp_bs | apply wp_b | refine wp_sr ?_ | refine wp_sx ?_ | refine wp_ret' ?_ | refine wp_skip' ?_ | refine wp_exit' ?_)
  refine wp_imp (mv_toA n hn es c A (A ++ R code c0 cnt :: bs) Ms n 0 (by omega)) ?_
  rintro ex st ⟨rfl, rfl⟩
  simp only [if_true]
  repeat (first | apply wp_as | apply wp_ss | refine wr (by simp; with_reducible rfl) ?_ | refine wq (by simp; with_reducible rfl) ?_ | refine wt (by simpa) ?_ | refine wf (by simpa) ?_ | refine xt (by simpa) ?_ | refine xf (by simpa) ?_ | apply wp_bs | apply wp_b | refine wp_sr ?_ | refine wp_sx ?_ | refine wp_ret' ?_ | refine wp_skip' ?_ | refine wp_exit' ?_)
  refine wp_imp (mv_swA code c0 hc n hn es c A bs Ms n 0 cnt (rI n) (by omega) (rI_len n) (fun x hx => mem_rI.1 hx) (by omega)) ?_
  rintro ex st ⟨rfl, to, k, ⟨h1, h2, h3⟩, rfl⟩
  simp only [if_true]
  repeat (first | apply wp_as | apply wp_ss | refine wr (by simp; with_reducible rfl) ?_ | refine wq (by simp; with_reducible rfl) ?_ | refine wt (by simpa) ?_ | refine wf (by simpa) ?_ | refine xt (by simpa) ?_ | refine xf (by simpa) ?_ | apply wp_bs | apply wp_b | refine wp_sr ?_ | refine wp_sx ?_ | refine wp_ret' ?_ | refine wp_skip' ?_ | refine wp_exit' ?_)
  refine wp_imp (mv_ed n hn es c hes hel to h1 h2 ((A ++ R code c0 k :: bs) :: Ms) (Ms.length + 1) (by simp) es.length 0 [] (by simp) rfl (fun e he => by simp at he)) ?_
  rintro ex st ⟨rfl, out, ⟨h4, h5⟩, rfl⟩
  simp only [if_true]
  have hot : out.take out.length = out := List.take_of_length_le (Nat.le_refl _)
  repeat (first | apply wp_as | apply wp_ss | refine wr (by simp [hot]; with_reducible rfl) ?_ | refine wq (by simp [hot]; with_reducible rfl) ?_ | refine wt (by simpa [hot]) ?_ | refine wf (by simpa [hot]) ?_ | refine xt (by simpa [hot]) ?_ | refine xf (by simpa [hot]) ?_ | apply wp_bs | apply wp_b | refine wp_sr ?_ | refine wp_sx ?_ | refine wp_ret' ?_ | refine wp_skip' ?_ | refine wp_exit' ?_)
  refine ⟨.inr rfl, _, ⟨out, k, h4, h5, by omega, rfl⟩, ?_⟩
  simp [if_spec_moved]

theorem ev_ofA (code : List Int) (c : Bool) (hc : CodeOk code) (cnt : Nat) (hn : cnt ≤ 1000000) (l : List ByteArray) (cl : Bool) (hl : 0 < l.length ∧ l.length ≤ 1000) (A bs : Boxes) (Ms : List Boxes) :
    ∃ (s : ByteArray) (k : Nat), s ∈ l ∧ k ≤ cnt + 1 ∧ limF tb l_spec_reader_of [] [.bptr 0 A.length 0, .lst 1 (strs l) cl] ((A ++ R code c cnt :: bs) :: Ms) = some ⟨Str s, [], (A ++ R code c k :: bs) :: Ms, []⟩ := by
  obtain ⟨v, k, hv, hk, e1⟩ := pickA code c hc cnt hn (l.length : Int) (by omega) A bs (Ms ++ [[]])
  have hv := hv (by omega)
  have hvl : v < l.length := by omega
  refine ⟨l[v], k, List.getElem_mem hvl, hk, ev_lim ?_⟩
  refine call_of_wp tb_spec_reader_of rfl ?_
  repeat (first | apply wp_as | apply wp_ss | refine wr (by simp [e1, hvl]; with_reducible rfl) ?_ | refine wq (by simp [e1, hvl]; with_reducible rfl) ?_ | refine wt (by simpa [e1, hvl]) ?_ | refine wf (by simpa [e1, hvl]) ?_ | refine xt (by simpa [e1, hvl]) ?_ | refine xf (by simpa [e1, hvl]) ?_ | apply wp_bs | apply wp_b | refine wp_sr ?_ | refine wp_sx ?_ | refine wp_ret' ?_ | refine wp_skip' ?_ | refine wp_exit' ?_)
  simp [if_spec_reader_of]

theorem ac_loopA (code : List Int) (c : Bool) (hc : CodeOk code) (A bs : Boxes) (Ms : List Boxes) : ∀ (m : Nat) (cnt : Nat) (s : ByteArray), s.size + m ≤ 7 → 1 ≤ s.size → cnt + m ≤ 900000 →
    wp tb (.loop ic_spec_aCode_l6) { T := [(0, .bptr 0 A.length 0), (3, Str s), (4, I m)], loc := [], M := (A ++ R code c cnt :: bs) :: Ms }
      (fun ex st => ex = .exit 0 ∧ ∃ (s : ByteArray) (k : Nat), (1 ≤ s.size ∧ s.size ≤ 7 ∧ k ≤ cnt + m) ∧ st = { T := [(0, .bptr 0 A.length 0), (3, Str s), (4, I 0), (9, Bo false)], loc := [], M := (A ++ R code c k :: bs) :: Ms }) := by
  intro m
  induction m with
  | zero =>
    intro cnt s hs h1 hk
    refine wp_loop ?_
    repeat (first | apply wp_as | apply wp_ss | refine wr (by simp; with_reducible rfl) ?_ | refine wq (by simp; with_reducible rfl) ?_ | refine wt (by simpa) ?_ | refine wf (by simpa) ?_ | refine xt (by simpa) ?_ | refine xf (by simpa) ?_ | apply wp_bs | apply wp_b | refine wp_sr ?_ | refine wp_sx ?_ | refine wp_ret' ?_ | refine wp_skip' ?_ | refine wp_exit' ?_)
    exact ⟨rfl, s, cnt, ⟨h1, by omega, by omega⟩, rfl⟩
  | succ m ih =>
    intro cnt s hs h1 hk
    obtain ⟨t, k, ht, hk2, e1⟩ := ev_ofA code c hc cnt (by omega) [⟨#[105]⟩, ⟨#[100]⟩] false (by simp) A bs (Ms ++ [[]])
    have hts : t.size = 1 := by
      simp only [List.mem_cons, List.not_mem_nil, or_false] at ht
      rcases ht with rfl | rfl <;> rfl
    have h2 : (0 : Int) < (m : Int) + 1 := by omega
    have w1 : IntKind.i64.wrap (m : Int) = (m : Int) := wrap64 (by omega) (by omega)
    have e1 : limF tb l_spec_reader_of [] [.bptr 0 A.length 0, .lst 1 [[Str ⟨#[105]⟩], [Str ⟨#[100]⟩]] false] ((A ++ R code c cnt :: bs) :: (Ms ++ [[]])) = some ⟨Str t, [], (A ++ R code c k :: bs) :: (Ms ++ [[]]), []⟩ := e1
    have hso : Op.stringOp .add s t = Sem.pure (.string (s ++ t)) := by
      have hno : ¬ (((s.size + t.size : Nat) : Int) > IntKind.i64.max) := by rw [show IntKind.i64.max = 9223372036854775807 from rfl]; omega
      unfold Op.stringOp
      simp only [if_neg hno]; rfl
    have hss : (s ++ t).size = s.size + 1 := by rw [ByteArray.size_append, hts]
    have hn2 := ih k (s ++ t) (by omega) (by omega) (by omega)
    refine wp_loop ?_
    repeat (first | apply wp_as | apply wp_ss | refine wr (by simp [h2, w1, e1, hso]; with_reducible rfl) ?_ | refine wq (by simp [h2, w1, e1, hso]; with_reducible rfl) ?_ | refine wt (by simpa [h2, w1, e1, hso]) ?_ | refine wf (by simpa [h2, w1, e1, hso]) ?_ | refine xt (by simpa [h2, w1, e1, hso]) ?_ | refine xf (by simpa [h2, w1, e1, hso]) ?_ | apply wp_bs | apply wp_b | refine wp_sr ?_ | refine wp_sx ?_ | refine wp_ret' ?_ | refine wp_skip' ?_ | refine wp_exit' ?_)
    refine wp_imp hn2 ?_
    rintro ex st ⟨rfl, s', k', ⟨g1, g2, g3⟩, rfl⟩
    exact ⟨rfl, s', k', ⟨g1, g2, by omega⟩, rfl⟩

theorem ev_aCodeA (code : List Int) (c : Bool) (hc : CodeOk code) (cnt : Nat) (hn : cnt ≤ 800000) (A bs : Boxes) (Ms : List Boxes) :
    ∃ (s : ByteArray) (k : Nat), 1 ≤ s.size ∧ s.size ≤ 7 ∧ k ≤ cnt + 10 ∧ limF tb l_spec_aCode [] [.bptr 0 A.length 0] ((A ++ R code c cnt :: bs) :: Ms) = some ⟨Str s, [], (A ++ R code c k :: bs) :: Ms, []⟩ := by
  obtain ⟨x, k1, hx, hk1, e1⟩ := oneA code c hc cnt (by omega) [4, 3, 5, 2, 1, 0, 6] (by simp) A bs (Ms ++ [[]])
  obtain ⟨m, rfl, hm⟩ : ∃ m : Nat, x = (m : Int) ∧ m ≤ 6 := by
    simp at hx
    exact ⟨x.toNat, by omega, by omega⟩
  suffices hh : ∃ r, (∃ (s : ByteArray) (k : Nat), 1 ≤ s.size ∧ s.size ≤ 7 ∧ k ≤ cnt + 10 ∧ r = ⟨Str s, [], (A ++ R code c k :: bs) :: Ms, []⟩) ∧ Ev tb l_spec_aCode [] [.bptr 0 A.length 0] ((A ++ R code c cnt :: bs) :: Ms) r by
    obtain ⟨r, ⟨s, k, q1, q2, q3, rfl⟩, q4⟩ := hh
    exact ⟨s, k, q1, q2, q3, ev_lim q4⟩
  refine call_ex tb_spec_aCode rfl ?_
  repeat (first | apply wp_as | apply wp_ss | refine wr (by simp [e1]; with_reducible rfl) ?_ | refine wq (by simp [e1]; with_reducible rfl) ?_ | refine wt (by simpa [e1]) ?_ | refine wf (by simpa [e1]) ?_ | refine xt (by simpa [e1]) ?_ | refine xf (by simpa [e1]) ?_ | apply wp_bs | apply wp_b | refine wp_sr ?_ | refine wp_sx ?_ | refine wp_ret' ?_ | refine wp_skip' ?_ | refine wp_exit' ?_)
  refine wp_imp (ac_loopA code c hc A bs Ms m k1 ⟨#[105]⟩ (by show 1 + m ≤ 7; omega) (by show 1 ≤ 1; omega) (by omega)) ?_
  rintro ex st ⟨rfl, s, k, ⟨q1, q2, q3⟩, rfl⟩
  simp only [if_true]
  repeat (first | apply wp_as | apply wp_ss | refine wr (by simp; with_reducible rfl) ?_ | refine wq (by simp; with_reducible rfl) ?_ | refine wt (by simpa) ?_ | refine wf (by simpa) ?_ | refine xt (by simpa) ?_ | refine xf (by simpa) ?_ | apply wp_bs | apply wp_b | refine wp_sr ?_ | refine wp_sx ?_ | refine wp_ret' ?_ | refine wp_skip' ?_ | refine wp_exit' ?_)
  refine ⟨.inr rfl, _, ⟨s, k, q1, q2, by omega, rfl⟩, ?_⟩
  simp [if_spec_aCode]

end Go.Idl

namespace Go.Idl

open Go

/-- The first of the numbers from i on. -/
def rgF (n i : Nat) : List Int := ((List.range n).drop i).map fun v : Nat => (v : Int)

theorem rgF_cons {n i : Nat} (h : i < n) : rgF n i = (i : Int) :: rgF n (i + 1) := by
  rw [rgF, rgF, List.drop_eq_getElem_cons (by simpa using h)]; simp

theorem rgF_end (n : Nat) : rgF n n = [] := by simp [rgF]

theorem rgF_all (n : Nat) : rgF n 0 = idxB n (-1) := by rw [rgF, idxB_all, List.drop_zero]

theorem ev_nested (n : Nat) (hn : n ≤ 7) (es : List (Int × Int)) (c : Bool) (hl : es.length ≤ 1000) (a b : Int) :
    Ev tb l_spec_nested [] [Gr n es c, I a, I b] [] ⟨Bo (wi n (has es) a b), [], [], []⟩ := by
  have eh := fun c a b => ev_lim (ev_hasEdge n es c a b (by omega))
  have loop : ∀ (m i : Nat), i + m = n → wp tb (.loop ic_spec_nested_l6) { T := [(1, I a), (2, I b), (3, .bptr 0 0 0), (7, I i)], loc := [[I n, L2 es c]], M := [] }
      (fun ex st => (ex = .exit 0 ∧ (rgF n i).any (wiB (has es) a b) = false ∧ st = { T := [(1, I a), (2, I b), (3, .bptr 0 0 0), (7, I n), (11, Bo false)], loc := [[I n, L2 es c]], M := [] }) ∨
        ex = .ret ∧ (rgF n i).any (wiB (has es) a b) = true ∧ st = { T := [(6, Bo false)], loc := [[I n, L2 es c]], M := [] }) := by
    intro m
    induction m with
    | zero =>
      intro i hi
      have h3 : i = n := hi
      subst h3
      refine wp_loop ?_
      repeat (first | apply wp_as | apply wp_ss | refine wr (by simp; with_reducible rfl) ?_ | refine wq (by simp; with_reducible rfl) ?_ | refine wt (by simpa) ?_ | refine wf (by simpa) ?_ | refine xt (by simpa) ?_ | refine xf (by simpa) ?_ | apply wp_bs | apply wp_b | refine wp_sr ?_ | refine wp_sx ?_ | refine wp_ret' ?_ | refine wp_skip' ?_ | refine wp_exit' ?_)
      exact .inl ⟨rfl, by rw [rgF_end]; rfl, rfl⟩
    | succ m ih =>
      intro i hi
      have hi2 : i < n := by omega
      have w1 : IntKind.i64.wrap ((i : Int) + 1) = ((i + 1 : Nat) : Int) := wrapS (by omega)
      have hn := ih (i + 1) (by omega)
      rw [rgF_cons hi2, List.any_cons]
      by_cases h1 : (i : Int) = a
      · have hw : wiB (has es) a b i = false := by simp [wiB, h1]
        rw [hw, Bool.false_or]
        subst h1
        refine wp_loop ?_
        repeat (first | apply wp_as | apply wp_ss | refine wr (by simp [hi2, w1]; with_reducible rfl) ?_ | refine wq (by simp [hi2, w1]; with_reducible rfl) ?_ | refine wt (by simpa [hi2, w1]) ?_ | refine wf (by simpa [hi2, w1]) ?_ | refine xt (by simpa [hi2, w1]) ?_ | refine xf (by simpa [hi2, w1]) ?_ | apply wp_bs | apply wp_b | refine wp_sr ?_ | refine wp_sx ?_ | refine wp_ret' ?_ | refine wp_skip' ?_ | refine wp_exit' ?_)
        exact hn
      by_cases h2 : (i : Int) = b
      · have hw : wiB (has es) a b i = false := by simp [wiB, h2]
        rw [hw, Bool.false_or]
        subst h2
        refine wp_loop ?_
        repeat (first | apply wp_as | apply wp_ss | refine wr (by simp [hi2, w1, h1]; with_reducible rfl) ?_ | refine wq (by simp [hi2, w1, h1]; with_reducible rfl) ?_ | refine wt (by simpa [hi2, w1, h1]) ?_ | refine wf (by simpa [hi2, w1, h1]) ?_ | refine xt (by simpa [hi2, w1, h1]) ?_ | refine xf (by simpa [hi2, w1, h1]) ?_ | apply wp_bs | apply wp_b | refine wp_sr ?_ | refine wp_sx ?_ | refine wp_ret' ?_ | refine wp_skip' ?_ | refine wp_exit' ?_)
        exact hn
      have hw : wiB (has es) a b i = (has es a i && !has es b i) := by simp [wiB, h1, h2]
      rw [hw]
      cases k1 : has es a i with
      | false =>
        rw [Bool.false_and, Bool.false_or]
        refine wp_loop ?_
        repeat (first | apply wp_as | apply wp_ss | refine wr (by simp [hi2, w1, h1, h2, eh, k1]; with_reducible rfl) ?_ | refine wq (by simp [hi2, w1, h1, h2, eh, k1]; with_reducible rfl) ?_ | refine wt (by simpa [hi2, w1, h1, h2, eh, k1]) ?_ | refine wf (by simpa [hi2, w1, h1, h2, eh, k1]) ?_ | refine xt (by simpa [hi2, w1, h1, h2, eh, k1]) ?_ | refine xf (by simpa [hi2, w1, h1, h2, eh, k1]) ?_ | apply wp_bs | apply wp_b | refine wp_sr ?_ | refine wp_sx ?_ | refine wp_ret' ?_ | refine wp_skip' ?_ | refine wp_exit' ?_)
        exact hn
      | true =>
        cases k2 : has es b i with
        | true =>
          rw [Bool.true_and, Bool.not_true, Bool.false_or]
          refine wp_loop ?_
          repeat (first | apply wp_as | apply wp_ss | refine wr (by simp [hi2, w1, h1, h2, eh, k1, k2]; with_reducible rfl) ?_ | refine wq (by simp [hi2, w1, h1, h2, eh, k1, k2]; with_reducible rfl) ?_ | refine wt (by simpa [hi2, w1, h1, h2, eh, k1, k2]) ?_ | refine wf (by simpa [hi2, w1, h1, h2, eh, k1, k2]) ?_ | refine xt (by simpa [hi2, w1, h1, h2, eh, k1, k2]) ?_ | refine xf (by simpa [hi2, w1, h1, h2, eh, k1, k2]) ?_ | apply wp_bs | apply wp_b | refine wp_sr ?_ | refine wp_sx ?_ | refine wp_ret' ?_ | refine wp_skip' ?_ | refine wp_exit' ?_)
          exact hn
        | false =>
          refine wp_loop ?_
          repeat (first | apply wp_as | apply wp_ss | refine wr (by simp [hi2, w1, h1, h2, eh, k1, k2]; with_reducible rfl) ?_ | refine wq (by simp [hi2, w1, h1, h2, eh, k1, k2]; with_reducible rfl) ?_ | refine wt (by simpa [hi2, w1, h1, h2, eh, k1, k2]) ?_ | refine wf (by simpa [hi2, w1, h1, h2, eh, k1, k2]) ?_ | refine xt (by simpa [hi2, w1, h1, h2, eh, k1, k2]) ?_ | refine xf (by simpa [hi2, w1, h1, h2, eh, k1, k2]) ?_ | apply wp_bs | apply wp_b | refine wp_sr ?_ | refine wp_sx ?_ | refine wp_ret' ?_ | refine wp_skip' ?_ | refine wp_exit' ?_)
          exact .inr ⟨rfl, rfl, rfl⟩
  refine call_of_wp tb_spec_nested rfl ?_
  repeat (first | apply wp_as | apply wp_ss | refine wr (by simp; with_reducible rfl) ?_ | refine wq (by simp; with_reducible rfl) ?_ | refine wt (by simpa) ?_ | refine wf (by simpa) ?_ | refine xt (by simpa) ?_ | refine xf (by simpa) ?_ | apply wp_bs | apply wp_b | refine wp_sr ?_ | refine wp_sx ?_ | refine wp_ret' ?_ | refine wp_skip' ?_ | refine wp_exit' ?_)
  refine wp_imp (loop n 0 (by omega)) ?_
  rintro ex st (⟨rfl, h, rfl⟩ | ⟨rfl, h, rfl⟩)
  · simp only [if_true]
    rw [rgF_all] at h
    repeat (first | apply wp_as | apply wp_ss | refine wr (by simp; with_reducible rfl) ?_ | refine wq (by simp; with_reducible rfl) ?_ | refine wt (by simpa) ?_ | refine wf (by simpa) ?_ | refine xt (by simpa) ?_ | refine xf (by simpa) ?_ | apply wp_bs | apply wp_b | refine wp_sr ?_ | refine wp_sx ?_ | refine wp_ret' ?_ | refine wp_skip' ?_ | refine wp_exit' ?_)
    simp [if_spec_nested, wi, h]
  · rw [rgF_all] at h
    simp [if_spec_nested, wi, h]

theorem ev_spec_IsNested (n : Nat) (es : List (Int × Int)) (c : Bool) (hl : es.length ≤ 1000) (hv : vGraph n es = true) :
    Ev tb l_spec_IsNested [] [Gr n es c] [] ⟨Bo (nest n (has es)), [], [], []⟩ := by
  have hn7 := (vG_iff.1 hv).2.2
  have e1 := fun c => ev_lim (ev_validGraph n es c (by omega))
  rw [hv] at e1
  have e2 := ev_lim (ev_pairs n (by omega))
  have e3 := fun c a b => ev_lim (ev_nested n hn7 es c hl a b)
  have hpl : (prs n).length ≤ 1000 := by
    have h2 : ∀ n, n ≤ 7 → (prs n).length ≤ 21 := by decide +kernel
    have := h2 _ hn7
    omega
  rw [nest]
  generalize prs n = P at *
  have loop : ∀ (m i : Nat), i + m = P.length → wp tb (.loop ic_spec_IsNested_l9) { T := [(1, .bptr 0 0 0), (3, O2 P), (4, I i)], loc := [[I n, L2 es c]], M := [] }
      (fun ex st => (ex = .exit 0 ∧ (P.drop i).any (neP n (has es)) = false ∧ st = { T := [(1, .bptr 0 0 0), (3, O2 P), (4, I P.length), (14, Bo false)], loc := [[I n, L2 es c]], M := [] }) ∨
        ex = .ret ∧ (P.drop i).any (neP n (has es)) = true ∧ st = { T := [(2, Bo false)], loc := [[I n, L2 es c]], M := [] }) := by
    intro m
    induction m with
    | zero =>
      intro i hi
      have h3 : i = P.length := hi
      subst h3
      refine wp_loop ?_
      repeat (first | apply wp_as | apply wp_ss | refine wr (by simp; with_reducible rfl) ?_ | refine wq (by simp; with_reducible rfl) ?_ | refine wt (by simpa) ?_ | refine wf (by simpa) ?_ | refine xt (by simpa) ?_ | refine xf (by simpa) ?_ | apply wp_bs | apply wp_b | refine wp_sr ?_ | refine wp_sx ?_ | refine wp_ret' ?_ | refine wp_skip' ?_ | refine wp_exit' ?_)
      exact .inl ⟨rfl, by simp, rfl⟩
    | succ m ih =>
      intro i hi
      have hi2 : i < P.length := by omega
      have hd : P.drop i = P[i] :: P.drop (i + 1) := List.drop_eq_getElem_cons hi2
      have w1 : IntKind.i64.wrap ((i : Int) + 1) = ((i + 1 : Nat) : Int) := wrapS (by omega)
      have hn := ih (i + 1) (by omega)
      rw [hd, List.any_cons]
      obtain ⟨⟨x, y⟩, hx⟩ : ∃ e, e = P[i] := ⟨_, rfl⟩
      rw [← hx]
      have hx2 := hx.symm
      have hw : neP n (has es) (x, y) = (!wi n (has es) x y && !wi n (has es) y x) := rfl
      rw [hw]
      cases k1 : wi n (has es) x y with
      | true =>
        rw [Bool.not_true, Bool.false_and, Bool.false_or]
        refine wp_loop ?_
        repeat (first | apply wp_as | apply wp_ss | refine wr (by simp [hi2, w1, hx2, e3, k1]; with_reducible rfl) ?_ | refine wq (by simp [hi2, w1, hx2, e3, k1]; with_reducible rfl) ?_ | refine wt (by simpa [hi2, w1, hx2, e3, k1]) ?_ | refine wf (by simpa [hi2, w1, hx2, e3, k1]) ?_ | refine xt (by simpa [hi2, w1, hx2, e3, k1]) ?_ | refine xf (by simpa [hi2, w1, hx2, e3, k1]) ?_ | apply wp_bs | apply wp_b | refine wp_sr ?_ | refine wp_sx ?_ | refine wp_ret' ?_ | refine wp_skip' ?_ | refine wp_exit' ?_)
        exact hn
      | false =>
        cases k2 : wi n (has es) y x with
        | true =>
          rw [Bool.not_true, Bool.and_false, Bool.false_or]
          refine wp_loop ?_
          repeat (first | apply wp_as | apply wp_ss | refine wr (by simp [hi2, w1, hx2, e3, k1, k2]; with_reducible rfl) ?_ | refine wq (by simp [hi2, w1, hx2, e3, k1, k2]; with_reducible rfl) ?_ | refine wt (by simpa [hi2, w1, hx2, e3, k1, k2]) ?_ | refine wf (by simpa [hi2, w1, hx2, e3, k1, k2]) ?_ | refine xt (by simpa [hi2, w1, hx2, e3, k1, k2]) ?_ | refine xf (by simpa [hi2, w1, hx2, e3, k1, k2]) ?_ | apply wp_bs | apply wp_b | refine wp_sr ?_ | refine wp_sx ?_ | refine wp_ret' ?_ | refine wp_skip' ?_ | refine wp_exit' ?_)
          exact hn
        | false =>
          refine wp_loop ?_
          repeat (first | apply wp_as | apply wp_ss | refine wr (by simp [hi2, w1, hx2, e3, k1, k2]; with_reducible rfl) ?_ | refine wq (by simp [hi2, w1, hx2, e3, k1, k2]; with_reducible rfl) ?_ | refine wt (by simpa [hi2, w1, hx2, e3, k1, k2]) ?_ | refine wf (by simpa [hi2, w1, hx2, e3, k1, k2]) ?_ | refine xt (by simpa [hi2, w1, hx2, e3, k1, k2]) ?_ | refine xf (by simpa [hi2, w1, hx2, e3, k1, k2]) ?_ | apply wp_bs | apply wp_b | refine wp_sr ?_ | refine wp_sx ?_ | refine wp_ret' ?_ | refine wp_skip' ?_ | refine wp_exit' ?_)
          exact .inr ⟨rfl, rfl, rfl⟩
  refine call_of_wp tb_spec_IsNested rfl ?_
  repeat (first | apply wp_as | apply wp_ss | refine wr (by simp [e1, e2]; with_reducible rfl) ?_ | refine wq (by simp [e1, e2]; with_reducible rfl) ?_ | refine wt (by simpa [e1, e2]) ?_ | refine wf (by simpa [e1, e2]) ?_ | refine xt (by simpa [e1, e2]) ?_ | refine xf (by simpa [e1, e2]) ?_ | apply wp_bs | apply wp_b | refine wp_sr ?_ | refine wp_sx ?_ | refine wp_ret' ?_ | refine wp_skip' ?_ | refine wp_exit' ?_)
  refine wp_imp (loop P.length 0 (by omega)) ?_
  rintro ex st (⟨rfl, h, rfl⟩ | ⟨rfl, h, rfl⟩)
  · simp only [if_true]
    rw [List.drop_zero] at h
    repeat (first | apply wp_as | apply wp_ss | refine wr (by simp; with_reducible rfl) ?_ | refine wq (by simp; with_reducible rfl) ?_ | refine wt (by simpa) ?_ | refine wf (by simpa) ?_ | refine xt (by simpa) ?_ | refine xf (by simpa) ?_ | apply wp_bs | apply wp_b | refine wp_sr ?_ | refine wp_sx ?_ | refine wp_ret' ?_ | refine wp_skip' ?_ | refine wp_exit' ?_)
    simp [if_spec_IsNested, h]
  · rw [List.drop_zero] at h
    simp [if_spec_IsNested, h]

theorem ev_spec_IsNested_no (n : Int) (es : List (Int × Int)) (c : Bool) (hl : es.length ≤ 1000) (hv : vGraph n es = false) :
    Ev tb l_spec_IsNested [] [Gr n es c] [] ⟨Bo false, [], [], []⟩ := by
  have e1 := ev_lim (ev_validGraph n es c (by omega))
  rw [hv] at e1
  refine call_of_wp tb_spec_IsNested rfl ?_
  repeat (first | apply wp_as | apply wp_ss | refine wr (by simp [e1]; with_reducible rfl) ?_ | refine wq (by simp [e1]; with_reducible rfl) ?_ | refine wt (by simpa [e1]) ?_ | refine wf (by simpa [e1]) ?_ | refine xt (by simpa [e1]) ?_ | refine xf (by simpa [e1]) ?_ | apply wp_bs | apply wp_b | refine wp_sr ?_ | refine wp_sx ?_ | refine wp_ret' ?_ | refine wp_skip' ?_ | refine wp_exit' ?_)
  simp [if_spec_IsNested]

theorem ev_DrawCodeOf (code : List Int) (c : Bool) (h : ∀ x ∈ code, 0 ≤ x ∧ x ≤ 255) (hl : code.length ≤ 10000000) :
    ∃ (n : Int) (es : List (Int × Int)), SmallG n es ∧ limF tb l_spec_DrawCodeOf [] [.lst 1 (bytes code) c] [] = some ⟨Gr n es false, [], [], []⟩ := by
  obtain ⟨c', e⟩ := ev_newReader code c [[[I 0, Z]]] (by omega)
  have e1 := ev_lim e
  obtain ⟨v, k1, hv, hk1, e2⟩ := pickA (code.take 2000) c' (code_ok h) 0 (by omega) 3 (by omega) [[I 0, Z]] [] []
  rw [show ((0 : Nat) : Int) = 0 from rfl] at e2
  simp only [List.length_cons, List.length_nil, List.cons_append, List.nil_append, Nat.zero_add] at e2
  by_cases hv0 : v = 0
  · subst hv0
    obtain ⟨n, es, k, h1, h2, e3⟩ := ev_someGraph (code.take 2000) c' (code_ok h) k1 (by omega) [[I 0, Z]] [] []
    simp only [List.length_cons, List.length_nil, List.cons_append, List.nil_append, Nat.zero_add] at e3
    refine ⟨n, es, h1, ev_lim ?_⟩
    refine call_of_wp tb_spec_DrawCodeOf rfl ?_
    repeat (first | apply wp_as | apply wp_ss | refine wr (by simp [e1, e2, e3]; with_reducible rfl) ?_ | refine wq (by simp [e1, e2, e3]; with_reducible rfl) ?_ | refine wt (by simpa [e1, e2, e3]) ?_ | refine wf (by simpa [e1, e2, e3]) ?_ | refine xt (by simpa [e1, e2, e3]) ?_ | refine xf (by simpa [e1, e2, e3]) ?_ | apply wp_bs | apply wp_b | refine wp_sr ?_ | refine wp_sx ?_ | refine wp_ret' ?_ | refine wp_skip' ?_ | refine wp_exit' ?_)
    simp [if_spec_DrawCodeOf]
  have hv0' : ¬ (v : Int) = 0 := by omega
  obtain ⟨s, k2, hs1, hs2, hk2, e3⟩ := ev_aCodeA (code.take 2000) c' (code_ok h) k1 (by omega) [[I 0, Z]] [] []
  simp only [List.length_cons, List.length_nil, List.cons_append, List.nil_append, Nat.zero_add] at e3
  have e4 := ev_lim (ev_codeGraph s hs2)
  have hsub := cgE_sub s
  have hel := prs_len (by omega) hsub
  have hin := prs_in hsub
  obtain ⟨out, k3, h1, h2, hk3, e5⟩ := ev_movedA (code.take 2000) c' (code_ok h) k2 (by omega) s.size hs2 (cgE s) false hin (by omega) [[I 0, Z]] [] []
  simp only [List.length_cons, List.length_nil, List.cons_append, List.nil_append, Nat.zero_add] at e5
  have hS : SmallG s.size out := ⟨by omega, by omega, by omega, fun e he => by have := h2 e he; omega⟩
  refine ⟨s.size, out, hS, ev_lim ?_⟩
  generalize cgE s = E at *
  refine call_of_wp tb_spec_DrawCodeOf rfl ?_
  repeat (first | apply wp_as | apply wp_ss | refine wr (by simp [e1, e2, e3, e4, e5, hv0, hv0']; with_reducible rfl) ?_ | refine wq (by simp [e1, e2, e3, e4, e5, hv0, hv0']; with_reducible rfl) ?_ | refine wt (by simpa [e1, e2, e3, e4, e5, hv0, hv0']) ?_ | refine wf (by simpa [e1, e2, e3, e4, e5, hv0, hv0']) ?_ | refine xt (by simpa [e1, e2, e3, e4, e5, hv0, hv0']) ?_ | refine xf (by simpa [e1, e2, e3, e4, e5, hv0, hv0']) ?_ | apply wp_bs | apply wp_b | refine wp_sr ?_ | refine wp_sx ?_ | refine wp_ret' ?_ | refine wp_skip' ?_ | refine wp_exit' ?_)
  simp [if_spec_DrawCodeOf]

theorem ev_DrawIsNested (code : List Int) (c : Bool) (h : ∀ x ∈ code, 0 ≤ x ∧ x ≤ 255) (hl : code.length ≤ 10000000) :
    ∃ (n : Int) (es : List (Int × Int)), SmallG n es ∧ limF tb l_spec_DrawIsNested [] [.lst 1 (bytes code) c] [] = some ⟨Gr n es false, [], [], []⟩ := by
  obtain ⟨n, es, hS, e1⟩ := ev_DrawCodeOf code c h hl
  refine ⟨n, es, hS, ev_lim ?_⟩
  refine call_of_wp tb_spec_DrawIsNested rfl ?_
  repeat (first | apply wp_as | apply wp_ss | refine wr (by simp [e1]; with_reducible rfl) ?_ | refine wq (by simp [e1]; with_reducible rfl) ?_ | refine wt (by simpa [e1]) ?_ | refine wf (by simpa [e1]) ?_ | refine xt (by simpa [e1]) ?_ | refine xf (by simpa [e1]) ?_ | apply wp_bs | apply wp_b | refine wp_sr ?_ | refine wp_sx ?_ | refine wp_ret' ?_ | refine wp_skip' ?_ | refine wp_exit' ?_)
  simp [if_spec_DrawIsNested]

/-- What the law FnIsNested says of graphs. -/
structure NestLaw (n : Nat) (es : List (Int × Int)) : Prop where
  same : nest n (has es) = nest n (hasM es)
  thr : thr (degs n es) = nest n (hasM es)
  com : nest n (hasM (compM n es)) = nest n (hasM es)

theorem ev_FnIsNested (law : ∀ (n : Nat) es, vGraph n es = true → NestLaw n es) (code : List Int) (c : Bool) (h : ∀ x ∈ code, 0 ≤ x ∧ x ≤ 255) :
    Ev tb l_laws_FnIsNested [] [.lst 1 (bytes code) c] [] ⟨Bo true, [], [], []⟩ := by
  by_cases hc : (1048576 : Int) < code.length
  · refine call_of_wp tb_laws_FnIsNested rfl ?_
    repeat (first | apply wp_as | apply wp_ss | refine wr (by simp [hc]; with_reducible rfl) ?_ | refine wq (by simp [hc]; with_reducible rfl) ?_ | refine wt (by simpa [hc]) ?_ | refine wf (by simpa [hc]) ?_ | refine xt (by simpa [hc]) ?_ | refine xf (by simpa [hc]) ?_ | apply wp_bs | apply wp_b | refine wp_sr ?_ | refine wp_sx ?_ | refine wp_ret' ?_ | refine wp_skip' ?_ | refine wp_exit' ?_)
    simp [if_laws_FnIsNested]
  obtain ⟨n, es, hS, e1⟩ := ev_DrawIsNested code c h (by omega)
  have hlen := hS.len
  have v1 := ev_lim (ev_ValidGraph n es false hS.fit (by omega))
  cases hv : vGraph n es with
  | false =>
    rw [hv] at v1
    have e2 := ev_lim (ev_IsNested_no n es false hS.fit (by omega) hv)
    have e3 := ev_lim (ev_spec_IsNested_no n es false (by omega) hv)
    refine call_of_wp tb_laws_FnIsNested rfl ?_
    repeat (first | apply wp_as | apply wp_ss | refine wr (by simp [hc, e1, e2, e3, v1]; with_reducible rfl) ?_ | refine wq (by simp [hc, e1, e2, e3, v1]; with_reducible rfl) ?_ | refine wt (by simpa [hc, e1, e2, e3, v1]) ?_ | refine wf (by simpa [hc, e1, e2, e3, v1]) ?_ | refine xt (by simpa [hc, e1, e2, e3, v1]) ?_ | refine xf (by simpa [hc, e1, e2, e3, v1]) ?_ | apply wp_bs | apply wp_b | refine wp_sr ?_ | refine wp_sx ?_ | refine wp_ret' ?_ | refine wp_skip' ?_ | refine wp_exit' ?_)
    simp [if_laws_FnIsNested]
  | true =>
  have hn := vG_n hv
  obtain ⟨n, rfl⟩ := Int.eq_ofNat_of_zero_le hn.1
  rw [hv] at v1
  obtain ⟨l1, l2, l3⟩ := law n es hv
  have hn7 := (vG_iff.1 hv).2.2
  have e2 := ev_lim (ev_IsNested n 2 es false (.inl rfl) (by omega) hv v1)
  have e3 := ev_lim (ev_spec_IsNested n es false (by omega) hv)
  rw [l1] at e3
  have e4 := ev_lim (ev_impl_DegreesOf n es false hS.fit (by omega) hv)
  have hdl : (degs n es).length = n := by rw [degs, dfold_len]; simp
  have e5 := ev_lim (ev_IsThreshold (degs n es) false (by omega))
  rw [l2] at e5
  have e7 := ev_lim (ev_ComplementGraph n es false hS.fit (by omega) hv)
  have hvc : vGraph n (compM n es) = true := compM_vG (by omega) es
  have hcf : Fit (compM n es) := fun e he => by
    have := prs_in (n := n) (es := compM n es) List.filter_sublist e he; omega
  have hcl2 : (compM n es).length ≤ 49 := prs_len (by omega) List.filter_sublist
  have e8 : ∀ q, q = nl2 (compM n es) → limF tb l_impl_IsNested [] [.agg [I n, match q with | .own e x => .lst e (frzLL x) false | x => x]] [] = some ⟨Bo (nest n (hasM es)), [], [], []⟩ := by
    rintro q rfl
    cases hq : compM n es with
    | nil =>
      rw [hq] at hvc l3
      have z1 := ev_lim (ev_ValidGraph_Z n)
      rw [hvc] at z1
      have := ev_lim (ev_IsNested n 0 [] true (.inr rfl) (by simp) hvc z1)
      rw [l3] at this
      exact this
    | cons e r =>
      rw [hq] at hvc l3 hcf hcl2
      have z1 := ev_lim (ev_ValidGraph n (e :: r) false hcf (by omega))
      rw [hvc] at z1
      simp only [nl2_cons, frz_eds]
      have := ev_lim (ev_IsNested n 2 (e :: r) false (.inl rfl) (by omega) hvc z1)
      rw [l3] at this
      exact this
  have e8 := e8 _ rfl
  generalize nest n (hasM es) = r at *
  generalize degs n es = D at *
  generalize compM n es = Q at *
  cases Q with
  | nil =>
    rw [nl2_nil] at *
    simp only at e8
    refine call_of_wp tb_laws_FnIsNested rfl ?_
    repeat (first | apply wp_as | apply wp_ss | refine wr (by simp [hc, e1, e2, e3, e4, e5, e7, e8, v1]; with_reducible rfl) ?_ | refine wq (by simp [hc, e1, e2, e3, e4, e5, e7, e8, v1]; with_reducible rfl) ?_ | refine wt (by simpa [hc, e1, e2, e3, e4, e5, e7, e8, v1]) ?_ | refine wf (by simpa [hc, e1, e2, e3, e4, e5, e7, e8, v1]) ?_ | refine xt (by simpa [hc, e1, e2, e3, e4, e5, e7, e8, v1]) ?_ | refine xf (by simpa [hc, e1, e2, e3, e4, e5, e7, e8, v1]) ?_ | apply wp_bs | apply wp_b | refine wp_sr ?_ | refine wp_sx ?_ | refine wp_ret' ?_ | refine wp_skip' ?_ | refine wp_exit' ?_)
    simp [if_laws_FnIsNested]
  | cons q Q =>
    rw [nl2_cons] at *
    simp only [frz_eds] at e8
    refine call_of_wp tb_laws_FnIsNested rfl ?_
    repeat (first | apply wp_as | apply wp_ss | refine wr (by simp [hc, e1, e2, e3, e4, e5, e7, e8, v1]; with_reducible rfl) ?_ | refine wq (by simp [hc, e1, e2, e3, e4, e5, e7, e8, v1]; with_reducible rfl) ?_ | refine wt (by simpa [hc, e1, e2, e3, e4, e5, e7, e8, v1]) ?_ | refine wf (by simpa [hc, e1, e2, e3, e4, e5, e7, e8, v1]) ?_ | refine xt (by simpa [hc, e1, e2, e3, e4, e5, e7, e8, v1]) ?_ | refine xf (by simpa [hc, e1, e2, e3, e4, e5, e7, e8, v1]) ?_ | apply wp_bs | apply wp_b | refine wp_sr ?_ | refine wp_sx ?_ | refine wp_ret' ?_ | refine wp_skip' ?_ | refine wp_exit' ?_)
    simp [if_laws_FnIsNested]

end Go.Idl

namespace Go.Idl

def insP (x : Nat × Nat) : List (Nat × Nat) → List (Nat × Nat)
  | [] => [x]
  | y :: r => if Nat.ble y.1 x.1 then x :: y :: r else y :: insP x r

/-- Pairs by laying off the first, again and again. -/
def hh : Nat → List (Nat × Nat) → List (Nat × Nat)
  | 0, _ => []
  | _ + 1, [] => []
  | m + 1, x :: r => (r.take x.1).map (fun y : Nat × Nat => (x.2, y.2)) ++ hh m ((((r.take x.1).map (fun y : Nat × Nat => (y.1 - 1, y.2)) ++ r.drop x.1 : List (Nat × Nat))).foldr insP [])

theorem getD_zero_all {left : List Int} {N : Nat} (hl : left.length = N) : left.all (fun x => decide (x = 0)) = true ↔ ∀ v, v < N → (0 : Int) = left.getD v 0 := by
  rw [List.all_eq_true]
  constructor
  · intro h v hv
    rw [List.getD_eq_getElem?_getD, List.getElem?_eq_getElem (by omega)]
    have := of_decide_eq_true (h _ (List.getElem_mem (show v < left.length by omega)))
    simp [this]
  · intro h x hx
    obtain ⟨v, hv, rfl⟩ := List.getElem_of_mem hx
    have := h v (by omega)
    rw [List.getD_eq_getElem?_getD, List.getElem?_eq_getElem hv] at this
    simpa using this.symm

theorem decAt_get {o : List Int} {i v : Nat} (hv : v < o.length) : (decAt o i).getD v 0 = o.getD v 0 - (if i = v then 1 else 0) := by
  rw [decAt, List.getD_eq_getElem?_getD, List.getElem?_set]
  by_cases h : i = v
  · subst h; simp [hv, List.getD_eq_getElem?_getD]
  · simp [h, List.getD_eq_getElem?_getD]

theorem inc_nonneg (v : Nat) (e : Int × Int) : 0 ≤ inc v e := by simp only [inc]; split <;> split <;> decide

theorem mem_subs {N : Nat} : ∀ (r : List (Int × Int)) (left : List Int) (ch g : List (Int × Int)), (∀ e ∈ r, 0 ≤ e.1 ∧ e.1 < e.2 ∧ e.2 < N) → left.length = N →
    (g ∈ subs r left ch ↔ ∃ s : List (Int × Int), s.Sublist r ∧ g = ch ++ s ∧ ∀ v, v < N → deg s v = left.getD v 0)
  | [], left, ch, g, _, hl => by
    rw [subs]
    constructor
    · intro h
      split at h
      · rename_i hz
        simp at h
        subst h
        exact ⟨[], List.Sublist.refl _, by simp, fun v hv => (getD_zero_all hl).1 hz v hv⟩
      · simp at h
    · rintro ⟨s, hs, rfl, hd⟩
      have : s = [] := by simpa using hs
      subst this
      rw [if_pos ((getD_zero_all hl).2 fun v hv => hd v hv)]
      simp
  | e :: r, left, ch, g, hr, hl => by
    have he := hr e (by simp)
    have hr' : ∀ x ∈ r, 0 ≤ x.1 ∧ x.1 < x.2 ∧ x.2 < N := fun x hx => hr x (by simp [hx])
    have hdl : (decAt (decAt left e.1.toNat) e.2.toNat).length = N := by simp [decAt, hl]
    have hget : ∀ v, v < N → (decAt (decAt left e.1.toNat) e.2.toNat).getD v 0 = left.getD v 0 - inc v e := fun v hv => by
      rw [decAt_get (by simp [decAt]; omega), decAt_get (by omega), inc]
      have c1 : (e.1.toNat = v) = (e.1 = (v : Int)) := by rw [eq_iff_iff]; omega
      have c2 : (e.2.toNat = v) = (e.2 = (v : Int)) := by rw [eq_iff_iff]; omega
      simp only [c1, c2]; omega
    rw [subs, List.mem_append]
    constructor
    · rintro (h | h)
      · split at h
        rotate_left
        · simp at h
        obtain ⟨s, hs, rfl, hd⟩ := (mem_subs r _ _ g hr' hdl).1 h
        refine ⟨e :: s, hs.cons_cons e, by simp, fun v hv => ?_⟩
        have h1 := hd v hv
        rw [hget v hv] at h1
        rw [deg, S_cons]
        have h2 : S s (inc v) = left.getD v 0 - inc v e := h1
        rw [h2]; omega
      · obtain ⟨s, hs, rfl, hd⟩ := (mem_subs r _ _ g hr' hl).1 h
        exact ⟨s, hs.cons e, rfl, hd⟩
    · rintro ⟨s, hs, rfl, hd⟩
      rcases List.sublist_cons_iff.1 hs with hs2 | ⟨s', rfl, hs2⟩
      · exact .inr ((mem_subs r _ _ _ hr' hl).2 ⟨s, hs2, rfl, hd⟩)
      · refine .inl ?_
        have hd' : ∀ v, v < N → inc v e + deg s' v = left.getD v 0 := fun v hv => by
          rw [← hd v hv, deg, deg, S_cons]
        have pos : ∀ x : Int, 0 ≤ x → x < N → (e.1 = x ∨ e.2 = x) → 0 < left.getD x.toNat 0 := fun x h0 h1 h2 => by
          have h3 := hd' x.toNat (by omega)
          have h4 : 0 ≤ deg s' x.toNat := S_nonneg fun y _ => inc_nonneg _ y
          have h5 : 1 ≤ inc x.toNat e := by
            simp only [inc, show ((x.toNat : Nat) : Int) = x by omega]
            rcases h2 with h2 | h2
            · rw [if_pos h2]; split <;> decide
            · rw [if_pos h2]; split <;> decide
          omega
        rw [if_pos ⟨pos e.1 (by omega) (by omega) (.inl rfl), pos e.2 (by omega) (by omega) (.inr rfl)⟩]
        refine (mem_subs r _ _ _ hr' hdl).2 ⟨s', hs2, by simp, fun v hv => ?_⟩
        rw [hget v hv, ← hd' v hv]; omega

theorem ite_iff {α : Type} {p q : Prop} [Decidable p] [Decidable q] (h : p ↔ q) (a b : α) : (if p then a else b) = if q then a else b := by
  by_cases hp : p
  · rw [if_pos hp, if_pos (h.1 hp)]
  · rw [if_neg hp, if_neg fun hq => hp (h.2 hq)]

/- Degrees of a graph of a relation. -/

def mk (u v : Nat) : Int × Int := (min (u : Int) v, max (u : Int) v)

theorem inc_mk_all : (List.range 8).all (fun n => (prs n).all fun e => (List.range n).all fun v => decide (inc v e = S (List.range n) (fun u => if u = v then 0 else if e = mk u v then 1 else 0))) = true := by decide +kernel

theorem inc_mk {n : Nat} (hn : n ≤ 7) {e : Int × Int} (he : e ∈ prs n) {v : Nat} (hv : v < n) : inc v e = S (List.range n) (fun u => if u = v then 0 else if e = mk u v then 1 else 0) := by
  have := List.all_eq_true.1 (List.all_eq_true.1 (List.all_eq_true.1 inc_mk_all n (List.mem_range.2 (by omega))) e he) v (List.mem_range.2 hv)
  exact of_decide_eq_true this

theorem S_ite {α : Type} (l : List α) (p : α → Bool) (f : α → Int) : S (l.filter p) f = S l (fun a => if p a then f a else 0) := by
  induction l with
  | nil => rfl
  | cons a l ih =>
    rw [List.filter_cons, S_cons]
    split <;> rename_i h
    · rw [S_cons, ih]
    · rw [ih]; omega

theorem mk_mem {n u v : Nat} (hu : u < n) (hv : v < n) (h : u ≠ v) : mk u v ∈ prs n := mem_prs.2 (by simp only [mk]; omega)

theorem deg_filter {n : Nat} (hn : n ≤ 7) (p : Int × Int → Bool) {v : Nat} (hv : v < n) : deg ((prs n).filter p) v = S (List.range n) (fun u => if u = v then 0 else if p (mk u v) then 1 else 0) := by
  rw [deg, S_ite, S_congr (g := fun e => S (List.range n) (fun u => if u = v then 0 else if e = mk u v then (if p (mk u v) then 1 else 0) else 0)) fun e he => ?_, S_swap]
  · refine S_congr fun u hu => ?_
    have hu := List.mem_range.1 hu
    by_cases huv : u = v
    · simp only [huv, if_true]; exact S_zero _
    · simp only [if_neg huv]
      have hm := mk_mem hu hv huv
      have h1 := S_one (pw_nodup (prs_pw n)) (mk u v)
      rw [if_pos hm] at h1
      by_cases hp : p (mk u v) = true
      · simp only [hp, if_true]
        exact Eq.trans (S_congr fun e _ => ite_iff eq_comm _ _) h1
      · simp only [if_neg hp, ite_self]; exact S_zero _
  · rw [inc_mk hn he hv]
    by_cases hp : p e = true
    · rw [if_pos hp]
      refine S_congr fun u _ => ?_
      by_cases huv : u = v
      · simp [huv]
      · simp only [if_neg huv]
        by_cases hem : e = mk u v
        · rw [if_pos hem, if_pos hem, ← hem, if_pos hp]
        · rw [if_neg hem, if_neg hem]
    · rw [if_neg hp]
      symm
      rw [S_congr (g := fun _ => 0), S_zero]
      intro u _
      by_cases huv : u = v
      · simp [huv]
      · simp only [if_neg huv]
        by_cases hem : e = mk u v
        · rw [if_pos hem, ← hem, if_neg hp]
        · rw [if_neg hem]

theorem mk_comm (u v : Nat) : mk u v = mk v u := Prod.ext (by simp only [mk]; omega) (by simp only [mk]; omega)

end Go.Idl

namespace Go.Idl

theorem deg_degs {n : Nat} {s : List (Int × Int)} (hs : s.Sublist (prs n)) {d : List Int} (hl : d.length = n) : (∀ v, v < n → deg s v = d.getD v 0) ↔ degs n s = d := by
  rw [degs_eq (prs_in hs)]
  constructor
  · intro h
    refine List.ext_getElem (by simp [hl]) fun v h1 h2 => ?_
    rw [List.getElem_map, List.getElem_range, h v (by omega), List.getD_eq_getElem?_getD, List.getElem?_eq_getElem h2]; rfl
  · intro h v hv
    rw [← h, List.getD_eq_getElem?_getD, List.getElem?_map, List.getElem?_range hv]; rfl

/-- The search finds the valid graphs with the degrees. -/
theorem mem_reals {d : List Int} (h7 : d.length ≤ 7) (g : List (Int × Int)) : g ∈ reals d ↔ vGraph d.length g = true ∧ degs d.length g = d := by
  rw [reals, mem_subs (N := d.length) _ _ _ _ (fun e he => mem_prs.1 he) rfl]
  constructor
  · rintro ⟨s, hs, rfl, hd⟩
    exact ⟨vG_iff.2 ⟨(prs_pw _).sublist hs, fun e he => hs.mem he, h7⟩, (deg_degs hs rfl).1 hd⟩
  · rintro ⟨h1, h2⟩
    exact ⟨g, vG_sub h1, rfl, (deg_degs (vG_sub h1) rfl).2 h2⟩

end Go.Idl

namespace Go.Idl

theorem insE_pw {e : Int × Int} : ∀ {es : List (Int × Int)}, PW es → e ∉ es → PW (insE e es)
  | [], _, _ => by simp [insE, PW]
  | x :: r, h, hn => by
    have h' := List.pairwise_cons.1 h
    rw [insE]
    split
    · rename_i hx
      refine List.pairwise_cons.2 ⟨fun y hy => ?_, insE_pw h'.2 fun hm => hn (by simp [hm])⟩
      rcases (insE_mem _ _ _).1 hy with rfl | hy
      · exact hx
      · exact h'.1 y hy
    · rename_i hx
      have hxe : below e x = true := by
        rcases below_total (a := e) (b := x) (fun h => hn (by simp [h])) with q | q
        · exact q
        · exact absurd q hx
      refine List.pairwise_cons.2 ⟨fun y hy => ?_, h⟩
      rcases List.mem_cons.1 hy with rfl | hy
      · exact hxe
      · exact below_trans hxe (h'.1 y hy)

end Go.Idl

namespace Go.Idl

theorem mem_idxB {n : Nat} {x : Int} : x ∈ idxB n (-1) ↔ 0 ≤ x ∧ x < n := by
  rw [idxB_all, List.mem_map]
  constructor
  · rintro ⟨v, hv, rfl⟩; have := List.mem_range.1 hv; omega
  · intro h; exact ⟨x.toNat, List.mem_range.2 (by omega), by omega⟩

end Go.Idl

namespace Go.Idl

/-- Laying off by numbers alone, of falling lists. -/
def hv : Nat → List Int → Bool
  | 0, _ => true
  | _ + 1, [] => true
  | m + 1, x :: r => decide (x ≤ r.length) && (r.take x.toNat).all (fun y => !decide (y = 0)) && hv m (fall ((r.take x.toNat).map (fun y => y - 1) ++ r.drop x.toNat))

end Go.Idl

namespace Go.Idl

theorem len_sub {α : Type} [DecidableEq α] : ∀ {l k : List α}, l.Nodup → (∀ x ∈ l, x ∈ k) → l.length ≤ k.length
  | [], _, _, _ => by simp
  | a :: l, k, hn, hs => by
    have hn' := List.nodup_cons.1 hn
    have h1 := len_sub (l := l) (k := k.erase a) hn'.2 (fun x hx => (List.mem_erase_of_ne (fun h => hn'.1 (by rw [← h]; exact hx))).2 (hs x (by simp [hx])))
    have h2 := List.length_erase_of_mem (hs a (by simp))
    have h3 : 0 < k.length := List.length_pos_of_mem (hs a (by simp))
    simp only [List.length_cons]; omega

theorem len_inj {α β : Type} [DecidableEq β] {l : List α} {k : List β} (f : α → β) (hn : l.Nodup) (hi : ∀ x ∈ l, ∀ y ∈ l, f x = f y → x = y) (hf : ∀ x ∈ l, f x ∈ k) : l.length ≤ k.length := by
  have h1 : (l.map f).Nodup := by
    rw [List.Nodup, List.pairwise_map]
    exact List.Pairwise.imp_of_mem (fun ha hb h hab => h (hi _ ha _ hb hab)) hn
  have := len_sub h1 (fun y hy => by obtain ⟨x, hx, rfl⟩ := List.mem_map.1 hy; exact hf x hx)
  simpa using this

theorem subs_nodup {N : Nat} : ∀ (r : List (Int × Int)) (left : List Int) (ch : List (Int × Int)), (∀ e ∈ r, 0 ≤ e.1 ∧ e.1 < e.2 ∧ e.2 < N) → left.length = N → r.Nodup → (subs r left ch).Nodup
  | [], left, ch, _, _, _ => by rw [subs]; split <;> simp
  | e :: r, left, ch, hr, hl, hn => by
    have hn' := List.nodup_cons.1 hn
    have hr' : ∀ x ∈ r, 0 ≤ x.1 ∧ x.1 < x.2 ∧ x.2 < N := fun x hx => hr x (by simp [hx])
    rw [subs]
    refine List.nodup_append.2 ⟨?_, subs_nodup r left ch hr' hl hn'.2, ?_⟩
    · split
      · exact subs_nodup r _ _ hr' (by simp [decAt, hl]) hn'.2
      · exact .nil
    · intro g hg g2 hg2 hgg
      subst hgg
      split at hg
      · obtain ⟨s1, -, h1, -⟩ := (mem_subs r _ _ g hr' (by simp [decAt, hl])).1 hg
        obtain ⟨s2, hs2, h2, -⟩ := (mem_subs r _ _ g hr' hl).1 hg2
        rw [h1, List.append_assoc] at h2
        have h3 := List.append_cancel_left h2
        exact hn'.1 (hs2.mem (by rw [← h3]; simp))
      · cases hg

theorem reals_nodup (d : List Int) : (reals d).Nodup := subs_nodup _ _ _ (fun _ he => mem_prs.1 he) rfl (pw_nodup (prs_pw _))

/-- A graph with its vertices renamed. -/
def rel (n : Nat) (σ : Nat → Nat) (g : List (Int × Int)) : List (Int × Int) := (prs n).filter fun e => decide (mk (σ e.1.toNat) (σ e.2.toNat) ∈ g)

theorem mk_nat {n : Nat} {e : Int × Int} (he : e ∈ prs n) : mk e.1.toNat e.2.toNat = e := by
  have := mem_prs.1 he
  exact Prod.ext (by simp only [mk]; omega) (by simp only [mk]; omega)

theorem rel_deg {n : Nat} (hn : n ≤ 7) {σ : Nat → Nat} (hσ : ∀ u, u < n → σ u < n) (hi : ∀ u v, u < n → v < n → (σ u = σ v ↔ u = v)) (hp : ((List.range n).map σ).Perm (List.range n)) {g : List (Int × Int)} (hg : vGraph n g = true) {v : Nat} (hv : v < n) :
    deg (rel n σ g) v = deg g (σ v) := by
  conv => rhs; rw [vG_filter hg]
  rw [rel, deg_filter hn _ hv, deg_filter hn _ (hσ v hv)]
  conv => rhs; rw [← S_perm hp, S_map]
  refine S_congr fun u hu => ?_
  have hu := List.mem_range.1 hu
  have hm : mk (σ (mk u v).1.toNat) (σ (mk u v).2.toNat) = mk (σ u) (σ v) := by
    rcases Nat.le_total u v with h | h
    · rw [show (mk u v).1.toNat = u by simp only [mk]; omega, show (mk u v).2.toNat = v by simp only [mk]; omega]
    · rw [show (mk u v).1.toNat = v by simp only [mk]; omega, show (mk u v).2.toNat = u by simp only [mk]; omega, mk_comm]
  rw [hm]
  exact ite_iff (hi u v hu hv).symm _ _

theorem rel_rel {n : Nat} {σ τ : Nat → Nat} (hτ : ∀ u, u < n → τ u < n) (hi : ∀ u v, u < n → v < n → (τ u = τ v ↔ u = v)) (hst : ∀ u, u < n → σ (τ u) = u) {g : List (Int × Int)} (hg : vGraph n g = true) :
    rel n τ (rel n σ g) = g := by
  conv => rhs; rw [vG_filter hg]
  refine List.filter_congr fun e he => ?_
  have hb := mem_prs.1 he
  obtain ⟨a, ha⟩ := Int.eq_ofNat_of_zero_le (show 0 ≤ e.1 by omega)
  obtain ⟨b, hb2⟩ := Int.eq_ofNat_of_zero_le (show 0 ≤ e.2 by omega)
  have he2 := mk_nat he
  rw [ha, hb2, Int.toNat_natCast, Int.toNat_natCast] at he2 ⊢
  have han : a < n := by omega
  have hbn : b < n := by omega
  have hm : mk (τ a) (τ b) ∈ prs n := mk_mem (hτ a han) (hτ b hbn) (fun h => by have := (hi a b han hbn).1 h; omega)
  rw [decide_eq_decide, rel, List.mem_filter, decide_eq_true_eq]
  have hm2 : mk (σ (mk (τ a) (τ b)).1.toNat) (σ (mk (τ a) (τ b)).2.toNat) = e := by
    rcases Nat.le_total (τ a) (τ b) with h | h
    · rw [show (mk (τ a) (τ b)).1.toNat = τ a by simp only [mk]; omega, show (mk (τ a) (τ b)).2.toNat = τ b by simp only [mk]; omega, hst a han, hst b hbn, he2]
    · rw [show (mk (τ a) (τ b)).1.toNat = τ b by simp only [mk]; omega, show (mk (τ a) (τ b)).2.toNat = τ a by simp only [mk]; omega, hst a han, hst b hbn, mk_comm, he2]
  rw [hm2]
  exact ⟨fun h => h.2, fun h => ⟨hm, h⟩⟩

theorem reals_rel {d f : List Int} (h7 : d.length ≤ 7) (hl : f.length = d.length) {σ τ : Nat → Nat} (hσ : ∀ u, u < d.length → σ u < d.length) (hτ : ∀ u, u < d.length → τ u < d.length)
    (hst : ∀ u, u < d.length → σ (τ u) = u) (hts : ∀ u, u < d.length → τ (σ u) = u) (hp : ((List.range d.length).map σ).Perm (List.range d.length)) (hd : ∀ u, u < d.length → f.getD u 0 = d.getD (σ u) 0) :
    (reals d).length ≤ (reals f).length := by
  have hiσ : ∀ u v, u < d.length → v < d.length → (σ u = σ v ↔ u = v) := fun u v hu hv => ⟨fun h => by rw [← hts u hu, h, hts v hv], fun h => by rw [h]⟩
  have hiτ : ∀ u v, u < d.length → v < d.length → (τ u = τ v ↔ u = v) := fun u v hu hv => ⟨fun h => by rw [← hst u hu, h, hst v hv], fun h => by rw [h]⟩
  refine len_inj (rel d.length σ) (reals_nodup d) (fun x hx y hy h => ?_) fun g hg => ?_
  · rw [← rel_rel hτ hiτ hst ((mem_reals h7 x).1 hx).1, h, rel_rel hτ hiτ hst ((mem_reals h7 y).1 hy).1]
  · obtain ⟨h1, h2⟩ := (mem_reals h7 g).1 hg
    have hv : vGraph d.length (rel d.length σ g) = true := filter_vG h7 _
    refine (mem_reals (by omega) _).2 ?_
    rw [hl]
    refine ⟨hv, (deg_degs (vG_sub hv) hl).1 fun v hv => ?_⟩
    rw [rel_deg h7 hσ hiσ hp h1 hv, hd v hv]
    exact (deg_degs (vG_sub h1) rfl).2 h2 _ (hσ v hv)

theorem reals_fall {d : List Int} (h7 : d.length ≤ 7) : (reals (fall d)).length = (reals d).length := by
  obtain ⟨n, hn⟩ : ∃ n, n = d.length := ⟨_, rfl⟩
  have hd : d = (List.range n).map fun v => d.getD v 0 := by
    refine List.ext_getElem (by simp [hn]) fun i k1 k2 => ?_
    simp [List.getD_eq_getElem?_getD, List.getElem?_eq_getElem k1]
  obtain ⟨π, hπ, hfp⟩ := perm_map_inv (f := fun v => d.getD v 0) (fall_perm d) hd
  have hπn : π.Nodup := hπ.nodup_iff.2 List.nodup_range
  have hπl : π.length = n := by rw [hπ.length_eq, List.length_range]
  have hσ : ∀ v, v < n → π.idxOf v < n := fun v hv => by
    have hm : v ∈ π := hπ.mem_iff.2 (List.mem_range.2 hv)
    have := List.idxOf_lt_length_of_mem hm
    omega
  have hτσ : ∀ v, v < n → π.getD (π.idxOf v) 0 = v := fun v hv => by
    have hm : v ∈ π := hπ.mem_iff.2 (List.mem_range.2 hv)
    have := List.idxOf_lt_length_of_mem hm
    rw [List.getD_eq_getElem?_getD, List.getElem?_eq_getElem this, List.getElem_idxOf]; rfl
  have hτ : ∀ i, i < n → π.getD i 0 < n := fun i hi => by
    rw [List.getD_eq_getElem?_getD, List.getElem?_eq_getElem (by omega)]
    exact List.mem_range.1 (hπ.mem_iff.1 (List.getElem_mem _))
  have hστ : ∀ i, i < n → π.idxOf (π.getD i 0) = i := fun i hi => by
    rw [List.getD_eq_getElem?_getD, List.getElem?_eq_getElem (by omega)]
    exact hπn.idxOf_getElem i (by omega)
  have hp1 : ((List.range n).map (π.getD · 0)).Perm (List.range n) := by
    have : (List.range n).map (π.getD · 0) = π := by
      refine List.ext_getElem (by simp [hπl]) fun i k1 k2 => ?_
      simp [List.getD_eq_getElem?_getD, List.getElem?_eq_getElem k2]
    rw [this]; exact hπ
  have hp2 : ((List.range n).map (π.idxOf ·)).Perm (List.range n) := by
    have hmap : π.map (π.idxOf ·) = List.range n := by
      refine List.ext_getElem (by simp [hπl]) fun i k1 k2 => ?_
      rw [List.getElem_map, List.getElem_range]
      exact hπn.idxOf_getElem i (by simpa using k1)
    have := hπ.symm.map (π.idxOf ·)
    rwa [hmap] at this
  have hf : ∀ i, i < n → (fall d).getD i 0 = d.getD (π.getD i 0) 0 := fun i hi => by
    rw [hfp, List.getD_eq_getElem?_getD, List.getElem?_map, List.getD_eq_getElem?_getD (l := π), List.getElem?_eq_getElem (by omega : i < π.length)]; rfl
  have hfl := fall_len d
  have a1 := reals_rel (d := d) (f := fall d) h7 hfl (σ := (π.getD · 0)) (τ := (π.idxOf ·)) (by rw [← hn]; exact hτ) (by rw [← hn]; exact hσ) (by rw [← hn]; exact hτσ) (by rw [← hn]; exact hστ) (by rw [← hn]; exact hp1) (by rw [← hn]; exact hf)
  have a2 := reals_rel (d := fall d) (f := d) (by omega) hfl.symm (σ := (π.idxOf ·)) (τ := (π.getD · 0)) (by rw [hfl, ← hn]; exact hσ) (by rw [hfl, ← hn]; exact hτ) (by rw [hfl, ← hn]; exact hστ) (by rw [hfl, ← hn]; exact hτσ) (by rw [hfl, ← hn]; exact hp2) (fun i hi => by
    rw [hfl, ← hn] at hi
    rw [hf _ (hσ i hi), hτσ i hi])
  omega

theorem insE_end {e : Int × Int} : ∀ {es : List (Int × Int)}, (∀ x ∈ es, below x e = true) → insE e es = es ++ [e]
  | [], _ => rfl
  | x :: es, h => by rw [insE, if_pos (h x (by simp)), insE_end fun y hy => h y (by simp [hy])]; rfl

theorem sum_zero : ∀ {l : List Int}, (∀ x ∈ l, 0 ≤ x) → (l.sum = 0 ↔ l.all (fun x => decide (x = 0)) = true)
  | [], _ => by simp
  | x :: l, h => by
    have h1 := h x (by simp)
    have h2 : 0 ≤ l.sum := by
      have : ∀ {l : List Int}, (∀ x ∈ l, 0 ≤ x) → 0 ≤ l.sum := by
        intro l
        induction l with
        | nil => intro _; simp
        | cons y l ih => intro h; have := ih fun z hz => h z (by simp [hz]); have := h y (by simp); simp only [List.sum_cons]; omega
      exact this fun y hy => h y (by simp [hy])
    rw [List.sum_cons, List.all_cons, Bool.and_eq_true, ← sum_zero fun y hy => h y (by simp [hy]), decide_eq_true_eq]
    omega

theorem srS_subs {n : Nat} : ∀ (r : List (Int × Int)) (left : List Int) (es : List (Int × Int)), PW r → (∀ e ∈ r, e ∈ prs n) → left.length = n → (∀ x ∈ left, 0 ≤ x) → (∀ x ∈ es, ∀ e ∈ r, below x e = true) →
    srS n es left r = subs r left es
  | [], left, es, _, _, _, hb, _ => by rw [srS, subs]; exact ite_iff (sum_zero hb) _ _
  | e :: r, left, es, hp, hr, hl, hb, hes => by
    have hp' := List.pairwise_cons.1 hp
    have he := mem_prs.1 (hr e (by simp))
    have hr' : ∀ x ∈ r, x ∈ prs n := fun x hx => hr x (by simp [hx])
    have hes' : ∀ x ∈ es, ∀ y ∈ r, below x y = true := fun x hx y hy => hes x hx y (by simp [hy])
    have h2 := srS_subs r left es hp'.2 hr' hl hb hes'
    rw [srS, subs, insE_end fun x hx => hes x hx e (by simp)]
    congr 1
    · split
      · rename_i hq
        refine srS_subs r _ _ hp'.2 hr' (by simp [decAt, hl]) (fun x hx => ?_) fun x hx y hy => ?_
        · obtain ⟨i, hi, rfl⟩ := List.mem_iff_getElem.1 hx
          have hi2 : i < left.length := by simpa [decAt] using hi
          have g1 := decAt_get (o := decAt left e.1.toNat) (i := e.2.toNat) (v := i) (by simpa [decAt] using hi2)
          have g2 := decAt_get (o := left) (i := e.1.toNat) (v := i) hi2
          rw [List.getD_eq_getElem?_getD, List.getElem?_eq_getElem hi] at g1
          have g3 := hb left[i] (List.getElem_mem hi2)
          have g4 : left.getD i 0 = left[i] := by rw [List.getD_eq_getElem?_getD, List.getElem?_eq_getElem hi2]; rfl
          simp only [Option.getD_some] at g1
          rw [g1, g2, g4]
          by_cases k1 : e.1.toNat = i
          · rw [k1] at hq
            have : ¬ e.2.toNat = i := by omega
            rw [if_pos k1, if_neg this]; omega
          · by_cases k2 : e.2.toNat = i
            · rw [k2] at hq
              rw [if_neg k1, if_pos k2]; omega
            · rw [if_neg k1, if_neg k2]; omega
        · rcases List.mem_append.1 hx with hx | hx
          · exact hes' x hx y hy
          · simp at hx; subst hx; exact hp'.1 y hy
      · rfl
    · by_cases hq : e.2 + 1 < n ∨ left.getD e.1.toNat 0 = 0
      · rw [if_pos hq, h2]
      · rw [if_neg hq]
        cases hs : subs r left es with
        | nil => rfl
        | cons g gl =>
          exfalso
          have hg : g ∈ subs r left es := by rw [hs]; simp
          obtain ⟨s, hsr, -, hd⟩ := (mem_subs r left es g (fun x hx => mem_prs.1 (hr' x hx)) hl).1 hg
          have h3 := hd e.1.toNat (by omega)
          have h4 : deg s e.1.toNat = 0 := by
            rw [deg, S_congr (g := fun _ => 0), S_zero]
            intro x hx
            have hx1 := hp'.1 x (hsr.mem hx)
            have hx2 := mem_prs.1 (hr' x (hsr.mem hx))
            rw [below_iff] at hx1
            rw [inc, if_neg (by omega), if_neg (by omega)]; rfl
          omega

theorem srS_reals {d : List Int} (hv : valid d = true) : srS d.length [] d (prs d.length) = reals d :=
  srS_subs _ _ _ (prs_pw _) (fun _ h => h) rfl (fun x hx => (valid_mem hv x hx).1) (by simp)

end Go.Idl

namespace Go.Idl

/-- Graphic, of falling lists. -/
def gS (s : List Int) : Bool := s.all (fun x => decide (0 ≤ x) && decide (x < s.length)) && decide (s.sum % 2 = 0) && noneNeg (slS s)

theorem all_perm' {xs ys : List Int} (h : xs.Perm ys) (p : Int → Bool) : xs.all p = ys.all p := by
  rw [Bool.eq_iff_iff, List.all_eq_true, List.all_eq_true]
  exact ⟨fun k x hx => k x (h.mem_iff.2 hx), fun k x hx => k x (h.mem_iff.1 hx)⟩

theorem graphic_gS {d : List Int} (hl : d.length ≤ 7) : graphic d = gS (fall d) := by
  rw [graphic, gS, valid, slacks_S, fall_len, fall_sum, all_perm' (fall_perm d), decide_eq_true hl, Bool.true_and]
  rfl

end Go.Idl

namespace Go.Idl

/-- Numbers below eight as one number. -/
def encI : List Int → Nat
  | [] => 0
  | x :: r => x.toNat + 8 * encI r

theorem dig_enc : ∀ (l : List Int) (i : Nat), (∀ x ∈ l, 0 ≤ x ∧ x < 8) → encI l / 8 ^ i % 8 = (l.getD i 0).toNat
  | [], i, _ => by simp [encI]
  | x :: r, 0, h => by
    have := h x (by simp)
    simp only [encI, Nat.pow_zero, Nat.div_one, List.getD_cons_zero]; omega
  | x :: r, i + 1, h => by
    have h1 := h x (by simp)
    have h2 := dig_enc r i fun y hy => h y (by simp [hy])
    rw [encI, Nat.pow_succ, Nat.mul_comm (8 ^ i), ← Nat.div_div_eq_div_mul, show (x.toNat + 8 * encI r) / 8 = encI r by omega, h2, List.getD_cons_succ]

theorem enc_dec : ∀ (l : List Int) (i : Nat), (∀ x ∈ l, 0 ≤ x ∧ x < 8) → 0 < l.getD i 0 → encI (decAt l i) + 8 ^ i = encI l
  | [], i, _, h => by simp at h
  | x :: r, 0, h, hp => by
    simp only [List.getD_cons_zero] at hp
    simp only [decAt, List.getD_cons_zero, List.set_cons_zero, encI, Nat.pow_zero]; omega
  | x :: r, i + 1, h, hp => by
    rw [List.getD_cons_succ] at hp
    have h2 := enc_dec r i (fun y hy => h y (by simp [hy])) hp
    rw [decAt] at h2
    rw [decAt, List.getD_cons_succ, List.set_cons_succ, encI, encI, Nat.pow_succ]; omega

theorem enc_zero : ∀ l : List Int, (∀ x ∈ l, 0 ≤ x ∧ x < 8) → (encI l = 0 ↔ l.sum = 0)
  | [], _ => by simp [encI]
  | x :: r, h => by
    have h1 := h x (by simp)
    have h2 := enc_zero r fun y hy => h y (by simp [hy])
    have h3 : 0 ≤ r.sum := by
      have : ∀ {l : List Int}, (∀ x ∈ l, 0 ≤ x ∧ x < 8) → 0 ≤ l.sum := by
        intro l
        induction l with
        | nil => intro _; simp
        | cons y l ih => intro h; have := ih fun z hz => h z (by simp [hz]); have := h y (by simp); simp only [List.sum_cons]; omega
      exact this fun y hy => h y (by simp [hy])
    rw [encI, List.sum_cons]; omega

/-- How many graphs there are, on one number. -/
noncomputable def sN (n : Nat) (P : List (Nat × Nat)) : Nat → Nat :=
  List.rec (motive := fun _ => Nat → Nat) (fun q => Bool.rec 0 1 (Nat.beq q 0))
    (fun e _ ih q => Nat.add
      (Bool.rec 0 (Bool.rec 0 (ih (Nat.sub (Nat.sub q (Nat.pow 8 e.1)) (Nat.pow 8 e.2))) (Nat.ble 1 (Nat.mod (Nat.div q (Nat.pow 8 e.2)) 8))) (Nat.ble 1 (Nat.mod (Nat.div q (Nat.pow 8 e.1)) 8)))
      (Bool.rec (Bool.rec 0 (ih q) (Nat.beq (Nat.mod (Nat.div q (Nat.pow 8 e.1)) 8) 0)) (ih q) (Nat.ble (e.2 + 2) n))) P

theorem rec_ite (b : Bool) (x y : Nat) : (Bool.rec x y b : Nat) = if b = true then y else x := by cases b <;> rfl

theorem sN_cons (n : Nat) (a b : Nat) (P : List (Nat × Nat)) (q : Nat) : sN n ((a, b) :: P) q =
    (if 1 ≤ q / 8 ^ a % 8 then (if 1 ≤ q / 8 ^ b % 8 then sN n P (q - 8 ^ a - 8 ^ b) else 0) else 0) + (if b + 2 ≤ n then sN n P q else if q / 8 ^ a % 8 = 0 then sN n P q else 0) := by
  show Nat.add (Bool.rec 0 (Bool.rec 0 (sN n P (Nat.sub (Nat.sub q (Nat.pow 8 a)) (Nat.pow 8 b))) (Nat.ble 1 (Nat.mod (Nat.div q (Nat.pow 8 b)) 8))) (Nat.ble 1 (Nat.mod (Nat.div q (Nat.pow 8 a)) 8)))
      (Bool.rec (Bool.rec 0 (sN n P q) (Nat.beq (Nat.mod (Nat.div q (Nat.pow 8 a)) 8) 0)) (sN n P q) (Nat.ble (b + 2) n)) = _
  simp only [rec_ite, Nat.ble_eq, Nat.beq_eq]
  rfl

theorem dec_bound {l : List Int} {i : Nat} (h : ∀ x ∈ l, 0 ≤ x ∧ x < 8) (hp : 0 < l.getD i 0) : ∀ x ∈ decAt l i, 0 ≤ x ∧ x < 8 := by
  intro x hx
  rcases List.mem_or_eq_of_mem_set hx with hx | rfl
  · exact h x hx
  · have : l.getD i 0 < 8 := by
      rw [List.getD_eq_getElem?_getD] at hp ⊢
      cases hq : l[i]? with
      | none => rw [hq] at hp; simp at hp
      | some y => have := h y (List.mem_of_getElem? hq); simpa using this.2
    omega

theorem dec_other {l : List Int} {i j : Nat} (h : i ≠ j) : (decAt l i).getD j 0 = l.getD j 0 := by
  rw [decAt, List.getD_eq_getElem?_getD, List.getElem?_set_ne h, List.getD_eq_getElem?_getD]

theorem srS_sN (n : Nat) : ∀ (r : List (Int × Int)) (es : List (Int × Int)) (left : List Int), (∀ e ∈ r, 0 ≤ e.1 ∧ e.1 < e.2) → (∀ x ∈ left, 0 ≤ x ∧ x < 8) →
    (srS n es left r).length = sN n (r.map fun e => (e.1.toNat, e.2.toNat)) (encI left)
  | [], es, left, _, hb => by
    rw [srS]
    show _ = (Bool.rec 0 1 (Nat.beq (encI left) 0) : Nat)
    rw [rec_ite]
    simp only [Nat.beq_eq]
    by_cases h0 : left.sum = 0
    · rw [if_pos h0, if_pos ((enc_zero left hb).2 h0)]; rfl
    · rw [if_neg h0, if_neg fun h => h0 ((enc_zero left hb).1 h)]; rfl
  | e :: r, es, left, hr, hb => by
    have he := hr e (by simp)
    have hr' : ∀ x ∈ r, 0 ≤ x.1 ∧ x.1 < x.2 := fun x hx => hr x (by simp [hx])
    have d1 := dig_enc left e.1.toNat hb
    have d2 := dig_enc left e.2.toNat hb
    have hne : e.1.toNat ≠ e.2.toNat := by omega
    rw [srS, List.map_cons, sN_cons, d1, d2, List.length_append]
    have i2 := srS_sN n r es left hr' hb
    congr 1
    · by_cases h1 : 0 < left.getD e.1.toNat 0
      · rw [if_pos (show 1 ≤ (left.getD e.1.toNat 0).toNat by omega)]
        by_cases h2 : 0 < left.getD e.2.toNat 0
        · rw [if_pos ⟨h1, h2⟩, if_pos (show 1 ≤ (left.getD e.2.toNat 0).toNat by omega)]
          have k1 := enc_dec left e.1.toNat hb h1
          have b1 := dec_bound hb h1
          have h2' : 0 < (decAt left e.1.toNat).getD e.2.toNat 0 := by rw [dec_other hne]; exact h2
          have k2 := enc_dec _ e.2.toNat b1 h2'
          rw [srS_sN n r _ _ hr' (dec_bound b1 h2')]
          congr 1
          omega
        · rw [if_neg (fun h => h2 h.2), if_neg (show ¬ 1 ≤ (left.getD e.2.toNat 0).toNat by omega)]; rfl
      · rw [if_neg (fun h => h1 h.1), if_neg (show ¬ 1 ≤ (left.getD e.1.toNat 0).toNat by omega)]; rfl
    · have hz : (left.getD e.1.toNat 0).toNat = 0 ↔ left.getD e.1.toNat 0 = 0 := by
        have : 0 ≤ left.getD e.1.toNat 0 := by
          rw [List.getD_eq_getElem?_getD]
          cases hq : left[e.1.toNat]? with
          | none => simp
          | some y => exact (hb y (List.mem_of_getElem? hq)).1
        omega
      by_cases h3 : e.2 + 1 < n
      · rw [if_pos (.inl h3), if_pos (by omega), i2]
      · rw [if_neg (show ¬ e.2.toNat + 2 ≤ n by omega)]
        by_cases h4 : left.getD e.1.toNat 0 = 0
        · rw [if_pos (.inr h4), if_pos (hz.2 h4), i2]
        · rw [if_neg (fun h => h.elim h3 h4), if_neg fun h => h4 (hz.1 h)]; rfl

/-- Threshold, of falling lists. -/
def thS (s : List Int) : Bool := decide (s = corrs s)

/-- How far the slack at the Durfee number is from zero, of falling lists. -/
def spS (s : List Int) : Int := if gS s then (if s.length = 0 then 0 else ((slS s).getD (durf s - 1) 0).tdiv 2) else -1

def chkT (s : List Int) : Bool := decide (thS (compS s) = thS s) && (!thS s || decide (spS s = 0))

noncomputable def chkU (s : List Int) : Bool := Bool.rec (!(Nat.beq (sN s.length ((prs s.length).map fun e => (e.1.toNat, e.2.toNat)) (encI s)) 1)) (Nat.beq (sN s.length ((prs s.length).map fun e => (e.1.toNat, e.2.toNat)) (encI s)) 1) (thS s)

set_option maxRecDepth 100000 in
theorem chkT_all : (List.range 8).all (fun n => allD chkT n (n - 1) []) = true := by kernel_rfl

set_option maxRecDepth 100000 in
theorem chkU_all : (List.range 7).all (fun n => allD chkU n (n - 1) []) = true := by kernel_rfl

theorem thrLaw : ∀ d, valid d = true → ThrLaw d := fun d hv => by
  have h1 := (valid_few hv).1
  have h2 := valid_mem hv
  have hb : ∀ x ∈ fall d, 0 ≤ x ∧ x ≤ ((d.length - 1 : Nat) : Int) := fun x hx => by
    have := h2 x (fall_mem.1 hx)
    omega
  have hc := List.all_eq_true.1 chkT_all d.length (List.mem_range.2 (by omega))
  have h3 := allD_ok chkT d.length (d.length - 1) [] (fall d) hc (fall_len d) (fall_desc d) hb
  simp only [List.reverse_nil, List.nil_append, chkT, Bool.and_eq_true, decide_eq_true_eq, Bool.or_eq_true, Bool.not_eq_true'] at h3
  have ht : thr d = thS (fall d) := by rw [thr, hv, thS, Bool.true_and]
  have hs : splitt d = spS (fall d) := by rw [splitt, spS, graphic_gS h1, slacks_S, fall_len]
  refine ⟨?_, fun h6 => ?_, fun h => ?_⟩
  · rw [thr, comp_valid hv, Bool.true_and, fall_comp, ht]; exact of_decide_eq_true h3.1
  · have hc := List.all_eq_true.1 chkU_all d.length (List.mem_range.2 (by omega))
    have h4 := allD_ok chkU d.length (d.length - 1) [] (fall d) hc (fall_len d) (fall_desc d) hb
    have h5 := srS_sN (fall d).length (prs (fall d).length) [] (fall d) (fun e he => by have := mem_prs.1 he; omega) (fun x hx => by have := hb x hx; omega)
    rw [srS_reals (fall_valid hv), reals_fall h1] at h5
    simp only [List.reverse_nil, List.nil_append, chkU] at h4
    rw [← h5] at h4
    rw [ht]
    cases hq : thS (fall d) with
    | false =>
      rw [hq] at h4
      have h4 : (!(Nat.beq (reals d).length 1)) = true := h4
      refine decide_eq_false fun h => ?_
      rw [h] at h4
      cases h4
    | true =>
      rw [hq] at h4
      have h4 : Nat.beq (reals d).length 1 = true := h4
      exact decide_eq_true (Nat.eq_of_beq_eq_true h4)
  · rw [hs]
    rw [ht] at h
    rcases h3.2 with h3 | h3
    · rw [h] at h3; cases h3
    · exact of_decide_eq_true h3

end Go.Idl

namespace Go.Idl

open Go

def apart (a b c d : Int) : Bool := decide (a ≠ b) && decide (a ≠ c) && decide (a ≠ d) && decide (b ≠ c) && decide (b ≠ d) && decide (c ≠ d)

/-- One of the two edges that a switch takes. -/
def gone (a b c d : Int) (x : Int × Int) : Bool := decide (x = (min a b, max a b)) || decide (x = (min c d, max c d))

end Go.Idl

namespace Go.Idl

open Go

def swX (es : List (Int × Int)) (a b c d : Int) : List (Int × Int) := es.filter (fun x => !gone a b c d x) ++ [(min a c, max a c), (min b d, max b d)]

/-- The edges behind a switch. -/
def sw (es : List (Int × Int)) (a b c d : Int) : List (Int × Int) := srtE (swX es a b c d)

/-- A switch may be made. -/
def mayI (es : List (Int × Int)) (a b c d : Int) : Bool := apart a b c d && hasM es a b && hasM es c d && !hasM es a c && !hasM es b d

theorem hasM_iff {es : List (Int × Int)} {a b : Int} : hasM es a b = true ↔ (min a b, max a b) ∈ es := by
  simp [hasM]

theorem hasM_no {es : List (Int × Int)} {a b : Int} : hasM es a b = false ↔ (min a b, max a b) ∉ es := by
  rw [← hasM_iff]; simp

theorem mayI_iff {es : List (Int × Int)} {a b c d : Int} : mayI es a b c d = true ↔ (a ≠ b ∧ a ≠ c ∧ a ≠ d ∧ b ≠ c ∧ b ≠ d ∧ c ≠ d) ∧ (min a b, max a b) ∈ es ∧ (min c d, max c d) ∈ es ∧ (min a c, max a c) ∉ es ∧ (min b d, max b d) ∉ es := by
  rw [mayI]
  simp only [Bool.and_eq_true, Bool.not_eq_true', apart, decide_eq_true_eq, hasM_iff, hasM_no, and_assoc]

theorem vG21 {n : Nat} (hn : n ≤ 7) {es : List (Int × Int)} (h : vGraph n es = true) : es.length ≤ 21 := by
  have h1 := (vG_sub h).length_le
  have h2 : ∀ n, n ≤ 7 → (prs n).length ≤ 21 := by decide +kernel
  have := h2 _ hn
  omega

theorem swX_ok {n : Nat} {es : List (Int × Int)} {a b c d : Int} (h : vGraph n es = true) (hm : mayI es a b c d = true) :
    (swX es a b c d).Nodup ∧ (∀ e ∈ swX es a b c d, e ∈ prs n) ∧ vGraph n (sw es a b c d) = true ∧ (swX es a b c d).length ≤ 21 := by
  obtain ⟨h1, h2, h3⟩ := vG_iff.1 h
  obtain ⟨⟨k1, k2, k3, k4, k5, k6⟩, m1, m2, m3, m4⟩ := mayI_iff.1 hm
  have p1 := mem_prs.1 (h2 _ m1)
  have p2 := mem_prs.1 (h2 _ m2)
  have hn : (swX es a b c d).Nodup := by
    refine List.nodup_append.2 ⟨(pw_nodup h1).filter _, ?_, ?_⟩
    · simp only [List.nodup_cons, List.mem_singleton, List.not_mem_nil, not_false_eq_true, List.nodup_nil, and_true, Prod.mk.injEq]
      omega
    · intro x hx y hy hxy
      subst hxy
      have hx := (List.mem_filter.1 hx).1
      simp only [List.mem_cons, List.not_mem_nil, or_false] at hy
      rcases hy with rfl | rfl
      · exact m3 hx
      · exact m4 hx
  have hp : ∀ e ∈ swX es a b c d, e ∈ prs n := fun e he => by
    rcases List.mem_append.1 he with he | he
    · exact h2 _ (List.mem_filter.1 he).1
    · simp only [List.mem_cons, List.not_mem_nil, or_false] at he
      simp only at p1 p2
      rcases he with rfl | rfl
      · exact mem_prs.2 (by simp only; omega)
      · exact mem_prs.2 (by simp only; omega)
  have hv : vGraph n (sw es a b c d) = true := vG_iff.2 ⟨srtE_pw hn, fun e he => hp e ((srtE_perm _).mem_iff.1 he), h3⟩
  refine ⟨hn, hp, hv, ?_⟩
  have := vG21 h3 hv
  rw [sw, (srtE_perm _).length_eq] at this
  exact this

end Go.Idl

namespace Go.Idl

open Go

def dropP (p q : Int) (x : Int × Int) : Bool := !(decide (x.1 = p) && decide (x.2 = q))

def dropE (a b : Int) (es : List (Int × Int)) : List (Int × Int) := es.filter (dropP (min a b) (max a b))

/-- A switch may be made (as the reference says). -/
def mayS (es : List (Int × Int)) (a b c d : Int) : Bool := decide (a ≠ c) && decide (b ≠ d) && decide (a ≠ d) && decide (b ≠ c) && has es a b && has es c d && !has es a c && !has es b d

/-- The edges behind a switch (as the reference says). -/
def swS (es : List (Int × Int)) (a b c d : Int) : List (Int × Int) := insE (min b d, max b d) (insE (min a c, max a c) (dropE c d (dropE a b es)))

end Go.Idl

namespace Go.Idl

open Go

abbrev Q4 := Int × Int × Int × Int

def sws (xs : List Q4) : List (List IV) := xs.map fun s => [I s.1, I s.2.1, I s.2.2.1, I s.2.2.2]

@[simp] theorem sws_len (xs : List Q4) : (sws xs).length = xs.length := by simp [sws]

@[simp] theorem sws_nil : sws [] = [] := rfl

@[simp] theorem sws_take (xs : List Q4) (n : Nat) : (sws xs).take n = sws (xs.take n) := by simp [sws, List.map_take]

@[simp] theorem sws_drop (xs : List Q4) (n : Nat) : (sws xs).drop n = sws (xs.drop n) := by simp [sws, List.map_drop]

@[simp] theorem sws_one (xs : List Q4) (a b c d : Int) : sws xs ++ [[IV.sc (.int .i64 a), IV.sc (.int .i64 b), IV.sc (.int .i64 c), IV.sc (.int .i64 d)]] = sws (xs ++ [(a, b, c, d)]) := by simp [sws]

@[simp] theorem sws_get (xs : List Q4) (i : Nat) (h : i < (sws xs).length) : (sws xs)[i] = [IV.sc (.int .i64 (xs[i]'(by simpa [sws] using h)).1), IV.sc (.int .i64 (xs[i]'(by simpa [sws] using h)).2.1), IV.sc (.int .i64 (xs[i]'(by simpa [sws] using h)).2.2.1), IV.sc (.int .i64 (xs[i]'(by simpa [sws] using h)).2.2.2)] := by simp [sws]

@[simp] theorem sws_get? (xs : List Q4) (i : Nat) : (sws xs)[i]? = xs[i]?.map fun s => [IV.sc (.int .i64 s.1), IV.sc (.int .i64 s.2.1), IV.sc (.int .i64 s.2.2.1), IV.sc (.int .i64 s.2.2.2)] := by simp [sws]

@[simp] theorem sws_all1 (xs : List Q4) : ((sws xs).all fun x => x.all IV.plain1) = true := by
  induction xs with
  | nil => rfl
  | cons x xs ih => simp only [sws, List.map_cons, List.all_cons] at *; rw [ih]; rfl

@[simp] theorem sws_all2 (xs : List Q4) : ((sws xs).all fun x => x.all IV.isData) = true := by
  induction xs with
  | nil => rfl
  | cons x xs ih => simp only [sws, List.map_cons, List.all_cons] at *; rw [ih]; rfl

@[simp] theorem sws_noLst (xs : List Q4) : noLstLL (sws xs) = true := by
  induction xs with
  | nil => rfl
  | cons x xs ih => simp only [sws, List.map_cons, noLstLL, noLstL, noLstV] at *; rw [ih]; rfl

@[simp] theorem frz_sws (xs : List Q4) : frzLL (sws xs) = sws xs := by
  induction xs with
  | nil => rfl
  | cons x xs ih => simp only [sws, List.map_cons, frzLL, frzL, frzV] at *; rw [ih]

end Go.Idl

namespace Go.Idl

open Go

def diffP (es fs : List (Int × Int)) (e : Int × Int) : Bool := hasM es e.1 e.2 != hasM fs e.1 e.2

/-- How many of some pairs just one of two graphs has. -/
def diffN (es fs P : List (Int × Int)) : Nat := (P.filter (diffP es fs)).length

/-- What the law FnSwitchEdges says of a graph and a switch. -/
structure SwLaw (n : Nat) (es : List (Int × Int)) (a b c d : Int) : Prop where
  may : mayS es a b c d = mayI es a b c d
  same : mayI es a b c d = true → swS es a b c d = sw es a b c d
  deg : mayI es a b c d = true → degs n (sw es a b c d) = degs n es
  back : mayI es a b c d = true → mayI (sw es a b c d) a c b d = true ∧ sw (sw es a b c d) a c b d = es
  four : mayI es a b c d = true → diffN es (sw es a b c d) (prs n) = 4

end Go.Idl

namespace Go.Idl

theorem mem_sw {es : List (Int × Int)} {a b c d : Int} {e : Int × Int} : e ∈ sw es a b c d ↔ (e ∈ es ∧ e ≠ (min a b, max a b) ∧ e ≠ (min c d, max c d)) ∨ e = (min a c, max a c) ∨ e = (min b d, max b d) := by
  rw [sw, (srtE_perm _).mem_iff, swX, List.mem_append, List.mem_filter]
  simp only [gone, Bool.not_eq_true', Bool.or_eq_false_iff, decide_eq_false_iff_not, List.mem_cons, List.not_mem_nil, or_false, ne_eq]

theorem has_hasM {n : Nat} {es : List (Int × Int)} (h : ∀ e ∈ es, e ∈ prs n) (a b : Int) : has es a b = hasM es a b := by
  rw [Bool.eq_iff_iff, hasM_iff, has, List.any_eq_true]
  constructor
  · rintro ⟨e, he, hi⟩
    have hp := mem_prs.1 (h e he)
    simp only [isE, Bool.or_eq_true, Bool.and_eq_true, decide_eq_true_eq] at hi
    have h2 : e = (min a b, max a b) := Prod.ext (by simp only; omega) (by simp only; omega)
    rw [← h2]; exact he
  · intro hm
    refine ⟨_, hm, ?_⟩
    simp only [isE, Bool.or_eq_true, Bool.and_eq_true, decide_eq_true_eq]
    omega

theorem may_eq {n : Nat} {es : List (Int × Int)} (h : vGraph n es = true) (a b c d : Int) : mayS es a b c d = mayI es a b c d := by
  have hin := (vG_iff.1 h).2.1
  rw [Bool.eq_iff_iff, mayI_iff]
  simp only [mayS, has_hasM hin, Bool.and_eq_true, decide_eq_true_eq, Bool.not_eq_true', hasM_iff, hasM_no, and_assoc]
  constructor
  · rintro ⟨h1, h2, h3, h4, m1, m2, m3, m4⟩
    have p1 := mem_prs.1 (hin _ m1)
    have p2 := mem_prs.1 (hin _ m2)
    simp only at p1 p2
    exact ⟨by omega, h1, h3, fun h => h4 h, h2, by omega, m1, m2, m3, m4⟩
  · rintro ⟨h1, h2, h3, h4, h5, h6, m1, m2, m3, m4⟩
    exact ⟨h2, h5, h3, h4, m1, m2, m3, m4⟩

/-- The four edges of a switch are different. -/
theorem four_ne {a b c d : Int} (h : a ≠ b ∧ a ≠ c ∧ a ≠ d ∧ b ≠ c ∧ b ≠ d ∧ c ≠ d) :
    ((min a b, max a b) : Int × Int) ≠ (min c d, max c d) ∧ ((min a b, max a b) : Int × Int) ≠ (min a c, max a c) ∧ ((min a b, max a b) : Int × Int) ≠ (min b d, max b d) ∧
    ((min c d, max c d) : Int × Int) ≠ (min a c, max a c) ∧ ((min c d, max c d) : Int × Int) ≠ (min b d, max b d) ∧ ((min a c, max a c) : Int × Int) ≠ (min b d, max b d) := by
  simp only [ne_eq, Prod.mk.injEq]
  omega

theorem sw_eq {n : Nat} {es : List (Int × Int)} {a b c d : Int} (h : vGraph n es = true) (hm : mayI es a b c d = true) : swS es a b c d = sw es a b c d := by
  obtain ⟨h1, h2, h3⟩ := vG_iff.1 h
  obtain ⟨hd, m1, m2, m3, m4⟩ := mayI_iff.1 hm
  have f4 := four_ne hd
  have hs1 : PW (dropE c d (dropE a b es)) := (h1.filter _).filter _
  have hs2 : ∀ e, e ∈ dropE c d (dropE a b es) ↔ e ∈ es ∧ e ≠ (min a b, max a b) ∧ e ≠ (min c d, max c d) := fun e => by
    simp only [dropE, List.mem_filter, dropP, Bool.not_eq_true', Bool.and_eq_false_imp, decide_eq_true_eq, decide_eq_false_iff_not, and_assoc, ne_eq, Prod.ext_iff, not_and]
  have n1 : ((min a c, max a c) : Int × Int) ∉ dropE c d (dropE a b es) := fun hh => m3 ((hs2 _).1 hh).1
  have n2 : ((min b d, max b d) : Int × Int) ∉ insE (min a c, max a c) (dropE c d (dropE a b es)) := fun hh => by
    rcases (insE_mem _ _ _).1 hh with hh | hh
    · exact f4.2.2.2.2.2 hh.symm
    · exact m4 ((hs2 _).1 hh).1
  refine pw_ext (insE_pw (insE_pw hs1 n1) n2) (srtE_pw (swX_ok h hm).1) fun e => ?_
  show e ∈ insE _ _ ↔ e ∈ sw es a b c d
  rw [insE_mem, insE_mem, hs2, mem_sw]
  constructor
  · rintro (h | h | h)
    · exact .inr (.inr h)
    · exact .inr (.inl h)
    · exact .inl h
  · rintro (h | h | h)
    · exact .inr (.inr h)
    · exact .inr (.inl h)
    · exact .inl h

theorem inc_mm (v : Nat) (a c : Int) : inc v (min a c, max a c) = (if a = v then 1 else 0) + (if c = v then 1 else 0) := by
  rcases Int.le_total a c with h | h
  · rw [inc, Int.min_eq_left h, Int.max_eq_right h]
  · rw [inc, Int.min_eq_right h, Int.max_eq_left h, Int.add_comm]

theorem sw_deg {n : Nat} {es : List (Int × Int)} {a b c d : Int} (h : vGraph n es = true) (hm : mayI es a b c d = true) (v : Nat) : deg (sw es a b c d) v = deg es v := by
  obtain ⟨h1, h2, h3⟩ := vG_iff.1 h
  obtain ⟨hd, m1, m2, m3, m4⟩ := mayI_iff.1 hm
  have f4 := four_ne hd
  have hp : (es.filter (gone a b c d)).Perm [(min a b, max a b), (min c d, max c d)] := by
    refine (List.perm_ext_iff_of_nodup ((pw_nodup h1).filter _) (by simpa using f4.1)).2 fun e => ?_
    simp only [List.mem_filter, gone, Bool.or_eq_true, decide_eq_true_eq, List.mem_cons, List.not_mem_nil, or_false]
    constructor
    · exact fun h => h.2
    · rintro (rfl | rfl)
      · exact ⟨m1, .inl rfl⟩
      · exact ⟨m2, .inr rfl⟩
  have e1 := S_filter es (gone a b c d) (inc v)
  have e2 := S_perm hp (inc v)
  have e3 := S_perm (srtE_perm (swX es a b c d)) (inc v)
  rw [deg, deg, sw, e3, swX, S_app, ← e1, e2]
  simp only [S, List.map_cons, List.map_nil, List.sum_cons, List.sum_nil, inc_mm]
  omega

theorem sw_degs {n : Nat} {es : List (Int × Int)} {a b c d : Int} (h : vGraph n es = true) (hm : mayI es a b c d = true) : degs n (sw es a b c d) = degs n es := by
  have i1 : EdgesIn n es := fun e he => by have := mem_prs.1 ((vG_iff.1 h).2.1 e he); omega
  have i2 : EdgesIn n (sw es a b c d) := fun e he => by have := mem_prs.1 ((vG_iff.1 (swX_ok h hm).2.2.1).2.1 e he); omega
  rw [degs_eq i1, degs_eq i2]
  exact List.map_congr_left fun v _ => sw_deg h hm v

theorem sw_back {n : Nat} {es : List (Int × Int)} {a b c d : Int} (h : vGraph n es = true) (hm : mayI es a b c d = true) :
    mayI (sw es a b c d) a c b d = true ∧ sw (sw es a b c d) a c b d = es := by
  obtain ⟨h1, h2, h3⟩ := vG_iff.1 h
  obtain ⟨hd, m1, m2, m3, m4⟩ := mayI_iff.1 hm
  have f4 := four_ne hd
  have hm' : mayI (sw es a b c d) a c b d = true := by
    refine mayI_iff.2 ⟨by omega, mem_sw.2 (.inr (.inl rfl)), mem_sw.2 (.inr (.inr rfl)), fun hh => ?_, fun hh => ?_⟩
    · rcases mem_sw.1 hh with hh | hh | hh
      · exact hh.2.1 rfl
      · exact f4.2.1 hh
      · exact f4.2.2.1 hh
    · rcases mem_sw.1 hh with hh | hh | hh
      · exact hh.2.2 rfl
      · exact f4.2.2.2.1 hh
      · exact f4.2.2.2.2.1 hh
  refine ⟨hm', pw_ext (srtE_pw (swX_ok (swX_ok h hm).2.2.1 hm').1) h1 fun e => ?_⟩
  show e ∈ sw (sw es a b c d) a c b d ↔ _
  rw [mem_sw, mem_sw]
  constructor
  · rintro (⟨(h | h), k1, k2⟩ | h | h)
    · exact h.1
    · rcases h with h | h
      · exact absurd h k1
      · exact absurd h k2
    · rw [h]; exact m1
    · rw [h]; exact m2
  · intro he
    by_cases k1 : e = (min a b, max a b)
    · exact .inr (.inl k1)
    by_cases k2 : e = (min c d, max c d)
    · exact .inr (.inr k2)
    exact .inl ⟨.inl ⟨he, k1, k2⟩, fun h => m3 (h ▸ he), fun h => m4 (h ▸ he)⟩

theorem sw_diffs {n : Nat} {es : List (Int × Int)} {a b c d : Int} (h : vGraph n es = true) (hm : mayI es a b c d = true) : diffN es (sw es a b c d) (prs n) = 4 := by
  obtain ⟨h1, h2, h3⟩ := vG_iff.1 h
  obtain ⟨hd, m1, m2, m3, m4⟩ := mayI_iff.1 hm
  have f4 := four_ne hd
  have h2' := (vG_iff.1 (swX_ok h hm).2.2.1).2.1
  have hp : ((prs n).filter (diffP es (sw es a b c d))).Perm [(min a b, max a b), (min c d, max c d), (min a c, max a c), (min b d, max b d)] := by
    refine (List.perm_ext_iff_of_nodup ((pw_nodup (prs_pw n)).filter _) ?_).2 fun e => ?_
    · simp only [List.nodup_cons, List.mem_cons, List.not_mem_nil, or_false, not_or, not_false_eq_true, List.nodup_nil, and_true]
      exact ⟨⟨f4.1, f4.2.1, f4.2.2.1⟩, ⟨f4.2.2.2.1, f4.2.2.2.2.1⟩, f4.2.2.2.2.2⟩
    · rw [List.mem_filter]
      simp only [List.mem_cons, List.not_mem_nil, or_false]
      constructor
      · rintro ⟨he, hx⟩
        rw [diffP, hasM_mem he, hasM_mem he] at hx
        by_cases k1 : e ∈ es
        · have k2 : e ∉ sw es a b c d := fun k2 => by simp [k1, k2] at hx
          by_cases q1 : e = (min a b, max a b)
          · exact .inl q1
          by_cases q2 : e = (min c d, max c d)
          · exact .inr (.inl q2)
          exact absurd (mem_sw.2 (.inl ⟨k1, q1, q2⟩)) k2
        · have k2 : e ∈ sw es a b c d := by
            by_cases k2 : e ∈ sw es a b c d
            · exact k2
            · simp [k1, k2] at hx
          rcases mem_sw.1 k2 with h | h | h
          · exact absurd h.1 k1
          · exact .inr (.inr (.inl h))
          · exact .inr (.inr (.inr h))
      · have key : ∀ e, e ∈ prs n → (e ∈ es ∧ e ∉ sw es a b c d) ∨ (e ∉ es ∧ e ∈ sw es a b c d) → e ∈ prs n ∧ diffP es (sw es a b c d) e = true := fun e he hh => by
          refine ⟨he, ?_⟩
          rw [diffP, hasM_mem he, hasM_mem he]
          rcases hh with ⟨h1, h2⟩ | ⟨h1, h2⟩ <;> simp [h1, h2]
        have no1 : ((min a b, max a b) : Int × Int) ∉ sw es a b c d := fun hh => by
          rcases mem_sw.1 hh with hh | hh | hh
          · exact hh.2.1 rfl
          · exact f4.2.1 hh
          · exact f4.2.2.1 hh
        have no2 : ((min c d, max c d) : Int × Int) ∉ sw es a b c d := fun hh => by
          rcases mem_sw.1 hh with hh | hh | hh
          · exact hh.2.2 rfl
          · exact f4.2.2.2.1 hh
          · exact f4.2.2.2.2.1 hh
        have y3 : ((min a c, max a c) : Int × Int) ∈ sw es a b c d := mem_sw.2 (.inr (.inl rfl))
        have y4 : ((min b d, max b d) : Int × Int) ∈ sw es a b c d := mem_sw.2 (.inr (.inr rfl))
        rintro (rfl | rfl | rfl | rfl)
        · exact key _ (h2 _ m1) (.inl ⟨m1, no1⟩)
        · exact key _ (h2 _ m2) (.inl ⟨m2, no2⟩)
        · exact key _ (h2' _ y3) (.inr ⟨m3, y3⟩)
        · exact key _ (h2' _ y4) (.inr ⟨m4, y4⟩)
  rw [diffN, hp.length_eq]
  rfl

theorem swLaw : ∀ (n : Nat) es a b c d, vGraph n es = true → SwLaw n es a b c d := fun _ es a b c d h =>
  ⟨may_eq h a b c d, sw_eq h, sw_degs h, sw_back h, sw_diffs h⟩

end Go.Idl

namespace Go.Idl

theorem S_zero_iff {α : Type} : ∀ {l : List α} {f : α → Int}, (∀ a ∈ l, 0 ≤ f a) → (S l f = 0 ↔ ∀ a ∈ l, f a = 0)
  | [], f, _ => by simp [S]
  | a :: l, f, h => by
    have h1 := h a (by simp)
    have h2 : 0 ≤ S l f := S_nonneg fun b hb => h b (by simp [hb])
    have h3 := S_zero_iff (l := l) (f := f) fun b hb => h b (by simp [hb])
    rw [S_cons, List.forall_mem_cons, ← h3]
    omega

end Go.Idl

namespace Go.Idl

/-- All other neighbours of u are neighbours of v. -/
def NA (n : Nat) (es : List (Int × Int)) (u v : Nat) : Prop := ∀ x, x < n → x ≠ u → x ≠ v → mk u x ∈ es → mk v x ∈ es

theorem hasM_mk (es : List (Int × Int)) (u v : Nat) : hasM es u v = decide (mk u v ∈ es) := by
  rw [Bool.eq_iff_iff, hasM_iff, decide_eq_true_eq]; rfl

theorem wi_iff {n : Nat} {es : List (Int × Int)} {u v : Nat} : wi n (hasM es) u v = true ↔ NA n es u v := by
  rw [wi, Bool.not_eq_true', List.any_eq_false]
  constructor
  · intro h x hx h1 h2 h3
    have hm : ((x : Nat) : Int) ∈ idxB n (-1) := mem_idxB.2 (by omega)
    have := h _ hm
    simp only [wiB, hasM_mk, Bool.and_eq_true, decide_eq_true_eq, Bool.not_eq_true', decide_eq_false_iff_not, not_and, Classical.not_not] at this
    exact this ⟨⟨by omega, by omega⟩, h3⟩
  · intro h x hx
    have hb := mem_idxB.1 hx
    obtain ⟨k, rfl⟩ := Int.eq_ofNat_of_zero_le hb.1
    simp only [wiB, hasM_mk, Bool.and_eq_true, decide_eq_true_eq, Bool.not_eq_true', decide_eq_false_iff_not, not_and, Classical.not_not]
    rintro ⟨⟨h1, h2⟩, h3⟩
    exact h k (by omega) (by omega) (by omega) h3

theorem nest_iff {n : Nat} {es : List (Int × Int)} : nest n (hasM es) = true ↔ ∀ u v, u < v → v < n → NA n es u v ∨ NA n es v u := by
  rw [nest, Bool.not_eq_true', List.any_eq_false]
  constructor
  · intro h u v h1 h2
    have := h ((u : Int), (v : Int)) (mem_prs.2 (by simp only; omega))
    simp only [neP, Bool.and_eq_true, Bool.not_eq_true', not_and, Bool.not_eq_false] at this
    by_cases hq : wi n (hasM es) u v = true
    · exact .inl (wi_iff.1 hq)
    · exact .inr (wi_iff.1 (this (by simpa using hq)))
  · intro h e he
    have hb := mem_prs.1 he
    obtain ⟨a, ha⟩ := Int.eq_ofNat_of_zero_le (show 0 ≤ e.1 by omega)
    obtain ⟨b, hb2⟩ := Int.eq_ofNat_of_zero_le (show 0 ≤ e.2 by omega)
    rw [neP, ha, hb2]
    rcases h a b (by omega) (by omega) with h | h
    · rw [wi_iff.2 h]; simp
    · rw [wi_iff.2 h]; simp

/-- Threshold degrees have one graph, up to seven vertices. -/
noncomputable def chkV (s : List Int) : Bool := Bool.rec true (Nat.beq (sN s.length ((prs s.length).map fun e => (e.1.toNat, e.2.toNat)) (encI s)) 1) (thS s)

set_option maxRecDepth 100000 in
theorem chkV_all : (List.range 8).all (fun n => allD chkV n (n - 1) []) = true := by kernel_rfl

theorem thr_one {d : List Int} (hv : valid d = true) (h : thr d = true) : (reals d).length = 1 := by
  have h1 := (valid_few hv).1
  have h2 := valid_mem hv
  have hb : ∀ x ∈ fall d, 0 ≤ x ∧ x ≤ ((d.length - 1 : Nat) : Int) := fun x hx => by
    have := h2 x (fall_mem.1 hx)
    omega
  have ht : thr d = thS (fall d) := by rw [thr, hv, thS, Bool.true_and]
  have hc := List.all_eq_true.1 chkV_all d.length (List.mem_range.2 (by omega))
  have h4 := allD_ok chkV d.length (d.length - 1) [] (fall d) hc (fall_len d) (fall_desc d) hb
  have h5 := srS_sN (fall d).length (prs (fall d).length) [] (fall d) (fun e he => by have := mem_prs.1 he; omega) (fun x hx => by have := hb x hx; omega)
  rw [srS_reals (fall_valid hv), reals_fall h1] at h5
  simp only [List.reverse_nil, List.nil_append, chkV] at h4
  rw [← h5, ← ht, h] at h4
  exact Nat.eq_of_beq_eq_true h4

theorem nest_no {n : Nat} {es : List (Int × Int)} (h : vGraph n es = true) (hn : nest n (hasM es) = false) : thr (degs n es) = false := by
  have hin := (vG_iff.1 h).2.1
  have hn7 := (vG_iff.1 h).2.2
  have hno : ¬ ∀ u v, u < v → v < n → NA n es u v ∨ NA n es v u := fun hh => by have := nest_iff.2 hh; rw [hn] at this; cases this
  simp only [Classical.not_forall, not_or, NA] at hno
  obtain ⟨u, v, huv, hvn, ⟨x, hx, hxu, hxv, m1, m2⟩, ⟨y, hy, hyv, hyu, m3, m4⟩⟩ := hno
  have hxy : x ≠ y := fun hh => m4 (hh ▸ m1)
  have hm : mayI es u x y v = true := mayI_iff.2 ⟨by omega, m1, by
    have : mk y v ∈ es := by rw [mk_comm]; exact m3
    exact this, fun hh => m4 hh, fun hh => m2 (by rw [mk_comm]; exact hh)⟩
  have hl := swLaw n es u x y v h
  have q3 := (swX_ok h hm).2.2.1
  have hdl : (degs n es).length = n := by rw [degs, dfold_len]; simp
  have hne : sw es u x y v ≠ es := fun hh => by
    have : ((min (u : Int) y, max (u : Int) y) : Int × Int) ∈ sw es u x y v := mem_sw.2 (.inr (.inl rfl))
    rw [hh] at this
    exact m4 this
  have r1 : es ∈ reals (degs n es) := (mem_reals (by omega) _).2 (by rw [hdl]; exact ⟨h, rfl⟩)
  have r2 : sw es u x y v ∈ reals (degs n es) := (mem_reals (by omega) _).2 (by rw [hdl]; exact ⟨q3, hl.deg hm⟩)
  cases ht : thr (degs n es) with
  | false => rfl
  | true =>
    have h1 := thr_one (degs_valid h) ht
    have h2 : [es, sw es u x y v].length ≤ (reals (degs n es)).length := len_sub (by simpa using hne.symm) (fun z hz => by
      simp only [List.mem_cons, List.not_mem_nil, or_false] at hz
      rcases hz with rfl | rfl
      · exact r1
      · exact r2)
    simp at h2
    omega

theorem S_countP {α : Type} (p : α → Bool) : ∀ l : List α, S l (fun a => if p a = true then 1 else 0) = (l.countP p : Int)
  | [] => rfl
  | a :: l => by rw [S_cons, S_countP p l, List.countP_cons]; split <;> simp_all <;> omega

theorem deg_nb {n : Nat} {es : List (Int × Int)} (h : vGraph n es = true) {v : Nat} (hv : v < n) : deg es v = S (List.range n) (fun u => if u = v then 0 else if mk u v ∈ es then 1 else 0) := by
  have h1 := deg_filter (vG_iff.1 h).2.2 (fun e => decide (e ∈ es)) hv
  rw [← vG_filter h] at h1
  rw [h1]
  exact S_congr fun u _ => by simp only [decide_eq_true_eq]

/-- Of two vertices the one of greater degree has all neighbours of the other. -/
theorem nest_deg {n : Nat} {es : List (Int × Int)} (h : vGraph n es = true) (hn : ∀ u v, u < v → v < n → NA n es u v ∨ NA n es v u) {u v : Nat} (hu : u < n) (hv : v < n) (huv : u ≠ v) (hd : deg es v ≤ deg es u) : NA n es v u := by
  have hor : NA n es u v ∨ NA n es v u := by
    rcases Nat.lt_or_gt_of_ne huv with h1 | h1
    · exact hn u v h1 hv
    · exact (hn v u h1 hu).symm
  refine hor.elim (fun ha => ?_) id
  have hsp : ∀ a b, a < n → b < n → a ≠ b → deg es a = S (List.range n) (fun x => if x = a ∨ x = b then 0 else if mk x a ∈ es then 1 else 0) + (if mk a b ∈ es then 1 else 0) := fun a b ha hb hab => by
    have h1 := S_one (List.nodup_range (n := n)) b
    rw [if_pos (List.mem_range.2 hb)] at h1
    have h2 : (if mk a b ∈ es then (1 : Int) else 0) = S (List.range n) (fun x => (if mk a b ∈ es then (1 : Int) else 0) * (if b = x then 1 else 0)) := by rw [S_mul, h1]; omega
    rw [deg_nb h ha, h2, ← S_add]
    refine S_congr fun x _ => ?_
    by_cases k1 : x = a
    · subst k1
      have : ¬ b = x := fun hh => hab hh.symm
      simp [this]
    · by_cases k2 : x = b
      · subst k2
        rw [mk_comm a x]
        simp [k1]
      · have : ¬ b = x := fun hh => k2 hh.symm
        simp [k1, k2, this]
  have e1 := hsp u v hu hv huv
  have e2 := hsp v u hv hu (Ne.symm huv)
  rw [mk_comm v u] at e2
  have hnn : ∀ x ∈ List.range n, (0 : Int) ≤ (if x = v ∨ x = u then 0 else if mk x v ∈ es then 1 else 0) - (if x = u ∨ x = v then 0 else if mk x u ∈ es then 1 else 0) := fun x hx => by
    have hx := List.mem_range.1 hx
    by_cases k : x = u ∨ x = v
    · rw [if_pos k, if_pos k.symm]; decide
    · rw [if_neg k, if_neg fun hh => k hh.symm]
      by_cases m : mk x u ∈ es
      · rw [if_pos m, if_pos (by rw [mk_comm]; exact ha x hx (fun hh => k (.inl hh)) (fun hh => k (.inr hh)) (by rw [mk_comm]; exact m))]; decide
      · rw [if_neg m]; split <;> decide
  have hz : S (List.range n) (fun x => (if x = v ∨ x = u then 0 else if mk x v ∈ es then 1 else 0) - (if x = u ∨ x = v then 0 else if mk x u ∈ es then 1 else 0)) = 0 := by
    have h0 := S_nonneg hnn
    rw [S_sub] at h0 ⊢
    omega
  intro x hx h1 h2 h3
  have := (S_zero_iff hnn).1 hz x (List.mem_range.2 hx)
  simp only [if_neg (show ¬ (x = v ∨ x = u) from fun hh => hh.elim h1 h2), if_neg (show ¬ (x = u ∨ x = v) from fun hh => hh.elim h2 h1), if_pos (show mk x v ∈ es by rw [mk_comm]; exact h3)] at this
  by_cases m : mk x u ∈ es
  · rw [mk_comm]; exact m
  · rw [if_neg m] at this; omega

theorem init_count (g : Nat → Bool) : ∀ m, (∀ i j, i < j → j < m → g j = true → g i = true) → ∀ i, i < m → (g i = true ↔ i < (List.range m).countP g)
  | 0, _, i, hi => absurd hi (by omega)
  | m + 1, h, i, hi => by
    have ih := init_count g m (fun i j h1 h2 => h i j h1 (by omega))
    rw [List.range_succ, List.countP_append, List.countP_singleton]
    have hle : (List.range m).countP g ≤ m := by have := List.countP_le_length (p := g) (l := List.range m); simpa using this
    by_cases hm : g m = true
    · have hall : (List.range m).countP g = m := by
        have h1 : (List.range m).countP g = (List.range m).length := List.countP_eq_length.2 fun a ha => h a m (List.mem_range.1 ha) (by omega) hm
        simpa using h1
      rw [if_pos hm, hall]
      refine ⟨fun _ => by omega, fun _ => ?_⟩
      by_cases hq : i = m
      · rw [hq]; exact hm
      · exact h i m (by omega) (by omega) hm
    · rw [if_neg hm, Nat.add_zero]
      by_cases hq : i = m
      · subst hq
        refine ⟨fun h => absurd h hm, fun h => by omega⟩
      · exact ih i (by omega)

theorem skip_all : ∀ n, n ≤ 7 → ∀ k, k < n → (List.range n).filter (fun i => decide (i ≠ k)) = (List.range (n - 1)).map (fun r => if r < k then r else r + 1) := by decide +kernel

theorem skip_count {n k : Nat} (hn : n ≤ 7) (hk : k < n) (F : Nat → Bool) (hF : ∀ i j, i < j → j < n → i ≠ k → j ≠ k → F j = true → F i = true) :
    (∀ i, i < k → (F i = true ↔ i < (List.range n).countP fun i => decide (i ≠ k) && F i)) ∧ (∀ i, k < i → i < n → (F i = true ↔ i ≤ (List.range n).countP fun i => decide (i ≠ k) && F i)) := by
  have h1 : ((List.range n).countP fun i => decide (i ≠ k) && F i) = (List.range (n - 1)).countP fun r => F (if r < k then r else r + 1) := by
    have := List.countP_filter (p := F) (q := fun i => decide (i ≠ k)) (l := List.range n)
    rw [skip_all n hn k hk, List.countP_map] at this
    rw [show ((List.range n).countP fun i => decide (i ≠ k) && F i) = (List.range n).countP fun a => F a && decide (a ≠ k) from List.countP_congr fun i _ => by simp [and_comm]]
    exact this.symm
  rw [h1]
  have ic := init_count (fun r => F (if r < k then r else r + 1)) (n - 1) (fun i j hij hj h => by
    refine hF _ (if j < k then j else j + 1) ?_ ?_ ?_ ?_ h <;> split <;> (try split) <;> omega)
  refine ⟨fun i hi => ?_, fun i hi hin => ?_⟩
  · have := ic i (by omega)
    simp only [if_pos hi] at this
    exact this
  · have := ic (i - 1) (by omega)
    simp only [if_neg (show ¬ i - 1 < k by omega), show i - 1 + 1 = i by omega] at this
    rw [this]; omega

theorem nest_yes {n : Nat} {es : List (Int × Int)} (h : vGraph n es = true) (hn : nest n (hasM es) = true) : thr (degs n es) = true := by
  have hn7 := (vG_iff.1 h).2.2
  have hN := nest_iff.1 hn
  have hin : EdgesIn n es := fun e he => by have := mem_prs.1 ((vG_iff.1 h).2.1 e he); omega
  have hdl : (degs n es).length = n := by rw [degs, dfold_len]; simp
  rw [thr, degs_valid h, Bool.true_and, decide_eq_true_eq]
  have hd := degs_eq hin
  obtain ⟨π, hπ, hfp⟩ := perm_map_inv (fall_perm (degs n es)) hd
  have hπn : π.Nodup := hπ.nodup_iff.2 List.nodup_range
  have hπl : π.length = n := by rw [hπ.length_eq, List.length_range]
  have hlt : ∀ i, (hi : i < π.length) → π[i] < n := fun i hi => List.mem_range.1 (hπ.mem_iff.1 (List.getElem_mem hi))
  have hdesc := fall_desc (degs n es)
  have hsl : (fall (degs n es)).length = n := by rw [fall_len, hdl]
  -- the numbers of the falling list
  have hs : ∀ i, (hi : i < n) → (fall (degs n es))[i]'(by omega) = deg es (π[i]'(by omega)) := fun i hi => by
    simp only [hfp, List.getElem_map]
  obtain ⟨F, hF⟩ : ∃ F : Nat → Nat → Bool, F = fun i j => decide (mk (π.getD i 0) (π.getD j 0) ∈ es) := ⟨_, rfl⟩
  have hFg : ∀ i j, (hi : i < n) → (hj : j < n) → F i j = decide (mk (π[i]'(by omega)) (π[j]'(by omega)) ∈ es) := fun i j hi hj => by
    rw [hF]
    simp only [List.getD_eq_getElem?_getD, List.getElem?_eq_getElem (show i < π.length by omega), List.getElem?_eq_getElem (show j < π.length by omega), Option.getD_some]
  have hFs : ∀ i j, F i j = F j i := fun i j => by rw [hF]; simp only [mk_comm]
  have hinj : ∀ i j, (hi : i < n) → (hj : j < n) → i ≠ j → π[i]'(by omega) ≠ π[j]'(by omega) := fun i j hi hj hij hh => by
    have a1 := hπn.idxOf_getElem i (by omega)
    have a2 := hπn.idxOf_getElem j (by omega)
    rw [hh] at a1
    omega
  have hcnt : ∀ k, (hk : k < n) → (fall (degs n es))[k]'(by omega) = (((List.range n).countP fun i => decide (i ≠ k) && F k i : Nat) : Int) := fun k hk => by
    rw [hs k hk, deg_nb h (hlt k (by omega)), ← S_perm hπ, ← S_countP]
    have hπm : π = (List.range n).map fun i => π.getD i 0 := by
      refine List.ext_getElem (by simp [hπl]) fun i k1 k2 => ?_
      simp [List.getD_eq_getElem?_getD, List.getElem?_eq_getElem k1]
    obtain ⟨w, hw⟩ : ∃ w, w = π[k]'(by omega) := ⟨_, rfl⟩
    simp only [← hw]
    conv => lhs; rw [hπm]
    rw [S_map]
    refine S_congr fun i hi => ?_
    have hi := List.mem_range.1 hi
    have hg : π.getD i 0 = π[i]'(by omega) := by rw [List.getD_eq_getElem?_getD, List.getElem?_eq_getElem (show i < π.length by omega)]; rfl
    rw [hg]
    by_cases hik : i = k
    · subst hik; simp [hw]
    · rw [if_neg (by rw [hw]; exact hinj i k hi hk hik)]
      refine ite_iff ?_ _ _
      rw [hFg k i hk hi, mk_comm, ← hw]
      simp [hik]
  have hini : ∀ k, k < n → ∀ i j, i < j → j < n → i ≠ k → j ≠ k → F k j = true → F k i = true := fun k hk i j hij hj hik hjk hh => by
    have hi : i < n := by omega
    rw [hFg k j hk hj, decide_eq_true_eq] at hh
    rw [hFg k i hk hi, decide_eq_true_eq]
    have hge : deg es (π[j]'(by omega)) ≤ deg es (π[i]'(by omega)) := by
      rw [← hs i hi, ← hs j hj]
      exact desc_get hdesc (Nat.le_of_lt hij) (by omega)
    have hna := nest_deg h hN (hlt i (by omega)) (hlt j (by omega)) (hinj i j hi hj (by omega)) hge
    have := hna _ (hlt k (by omega)) (hinj k j hk hj (Ne.symm hjk)) (hinj k i hk hi (Ne.symm hik)) (by rw [mk_comm]; exact hh)
    rw [mk_comm]; exact this
  refine List.ext_getElem (by simp [corrs]) fun k k1 k2 => ?_
  have hk : k < n := by omega
  rw [hcnt k hk]
  simp only [corrs, List.getElem_map, List.getElem_range, corr]
  have hsm : fall (degs n es) = (List.range n).map fun i => (fall (degs n es)).getD i 0 := by
    refine List.ext_getElem (by simp [hsl]) fun i k1 k2 => ?_
    simp [List.getD_eq_getElem?_getD, List.getElem?_eq_getElem k1]
  have hgd : ∀ i, (hi : i < n) → (fall (degs n es)).getD i 0 = (((List.range n).countP fun j => decide (j ≠ i) && F i j : Nat) : Int) := fun i hi => by
    rw [← hcnt i hi, List.getD_eq_getElem?_getD, List.getElem?_eq_getElem (by omega)]; rfl
  have c1 : ((fall (degs n es)).take k).countP (fun x => decide ((k : Int) ≤ x)) = ((List.range n).take k).countP fun i => decide (i ≠ k) && F k i := by
    conv => lhs; rw [hsm, ← List.map_take, List.countP_map]
    refine List.countP_congr fun i hi => ?_
    have hik : i < k := by
      rw [List.take_range] at hi
      have := List.mem_range.1 hi; omega
    have := (skip_count hn7 (show i < n by omega) (F i) (hini i (by omega))).2 k hik hk
    simp only [Function.comp_apply, hgd i (by omega), decide_eq_true_eq, Bool.and_eq_true]
    rw [hFs k i, this]; omega
  have c2 : ((fall (degs n es)).drop (k + 1)).countP (fun x => decide ((k : Int) < x)) = ((List.range n).drop (k + 1)).countP fun i => decide (i ≠ k) && F k i := by
    conv => lhs; rw [hsm, ← List.map_drop, List.countP_map]
    refine List.countP_congr fun i hi => ?_
    obtain ⟨j, hj, rfl⟩ := List.mem_iff_getElem.1 hi
    simp only [List.length_drop, List.length_range] at hj
    simp only [List.getElem_drop, List.getElem_range] 
    have hi2 : k + 1 + j < n := by omega
    have := (skip_count hn7 hi2 (F (k + 1 + j)) (hini _ hi2)).1 k (by omega)
    simp only [Function.comp_apply, hgd _ hi2, decide_eq_true_eq, Bool.and_eq_true]
    rw [hFs k, this]; omega
  rw [c1, c2]
  have c3 : (List.range n).countP (fun i => decide (i ≠ k) && F k i) = ((List.range n).take k).countP (fun i => decide (i ≠ k) && F k i) + ((List.range n).drop (k + 1)).countP (fun i => decide (i ≠ k) && F k i) := by
    conv => lhs; rw [← List.take_append_drop k (List.range n), List.countP_append, List.drop_eq_getElem_cons (show k < (List.range n).length by simpa using hk), List.countP_cons]
    simp
  rw [c3]; omega

theorem nestLaw : ∀ (n : Nat) es, vGraph n es = true → NestLaw n es := fun n es h => by
  have hin := (vG_iff.1 h).2.1
  have hn7 := (vG_iff.1 h).2.2
  have key : ∀ es, vGraph n es = true → thr (degs n es) = nest n (hasM es) := fun es h => by
    cases hq : nest n (hasM es) with
    | false => exact nest_no h hq
    | true => exact nest_yes h hq
  refine ⟨?_, key es h, ?_⟩
  · have : has es = hasM es := funext fun a => funext fun b => has_hasM hin a b
    rw [this]
  · rw [← key es h, ← key _ (compM_vG hn7 es), degs_compM h]
    exact (thrLaw _ (degs_valid h)).com

end Go.Idl

