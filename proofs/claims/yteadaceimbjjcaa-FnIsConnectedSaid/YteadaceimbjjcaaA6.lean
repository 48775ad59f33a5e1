/- Part 6 of a proof by an ideal interpreter of the code: its definitions and lemmas. Conditions: none. -/
import Derived.KernelRfl
import Derived.Test.YteadaceimbjjcaaA5
set_option linter.all false
set_option linter.unusedVariables false
set_option linter.unusedSimpArgs false
namespace Go.Idl

open Go

/-- A small graph, valid or not. -/
structure SmallG (n : Int) (es : List (Int × Int)) : Prop where
  n1 : -1 ≤ n
  n2 : n ≤ 8
  len : es.length ≤ 60
  el : ∀ e ∈ es, -1 ≤ e.1 ∧ e.1 ≤ 8 ∧ -1 ≤ e.2 ∧ e.2 ≤ 8

theorem SmallG.fit {n es} (h : SmallG n es) : Fit es := fun e he => by have := h.el e he; omega

theorem good_small {n : Nat} {es : List (Int × Int)} (hn : n ≤ 7) (hs : es.Sublist (prs n)) : SmallG n es :=
  ⟨by omega, by omega, by have := prs_len hn hs; omega, fun e he => by have := prs_in hs e he; omega⟩

theorem small_set {n : Int} {es : List (Int × Int)} (h : SmallG n es) {k : Nat} {e : Int × Int} (he : -1 ≤ e.1 ∧ e.1 ≤ 8 ∧ -1 ≤ e.2 ∧ e.2 ≤ 8) : SmallG n (es.set k e) :=
  ⟨h.n1, h.n2, by rw [List.length_set]; exact h.len, fun x hx => by
    rcases List.mem_or_eq_of_mem_set hx with hx | rfl
    · exact h.el x hx
    · exact he⟩

theorem ev_someGraph (code : List Int) (c : Bool) (hc : CodeOk code) (cnt : Nat) (hn : cnt ≤ 80000) (A bs : Boxes) (Ms : List Boxes) :
    ∃ (n : Int) (es : List (Int × Int)) (k : Nat), SmallG n es ∧ k ≤ cnt + 110 ∧
      limF tb l_spec_someGraph [] [.bptr 0 A.length 0] ((A ++ R code c cnt :: bs) :: Ms) = some ⟨OG n es, [], (A ++ R code c k :: bs) :: Ms, []⟩ := by
  obtain ⟨n, es, k1, hn7, hs, hk1, e1⟩ := ev_goodGraphA code c hc cnt (by omega) A bs (Ms ++ [[]])
  have e1 := ev_lim e1
  have hS := good_small hn7 hs
  have hel := hS.len
  suffices hh : ∃ r, (∃ (n : Int) (es : List (Int × Int)) (k : Nat), SmallG n es ∧ k ≤ cnt + 110 ∧ r = ⟨OG n es, [], (A ++ R code c k :: bs) :: Ms, []⟩) ∧ Ev tb l_spec_someGraph [] [.bptr 0 A.length 0] ((A ++ R code c cnt :: bs) :: Ms) r by
    obtain ⟨r, ⟨n, es, k, q1, q2, rfl⟩, q3⟩ := hh
    exact ⟨n, es, k, q1, q2, ev_lim q3⟩
  refine call_ex tb_spec_someGraph rfl ?_
  by_cases h0 : es.length = 0
  · have h00 : es = [] := List.length_eq_zero_iff.1 h0
    subst h00
    repeat (first | apply wp_as | apply wp_ss | refine wr (by simp [e1]; with_reducible rfl) ?_ | refine wq (by simp [e1]; with_reducible rfl) ?_ | refine wt (by simpa [e1]) ?_ | refine wf (by simpa [e1]) ?_ | refine xt (by simpa [e1]) ?_ | refine xf (by simpa [e1]) ?_ | apply wp_bs | apply wp_b | refine wp_sr ?_ | refine wp_sx ?_ | refine wp_ret' ?_ | refine wp_skip' ?_ | refine wp_exit' ?_)
    refine ⟨.inr rfl, _, ⟨n, [], k1, hS, by omega, rfl⟩, ?_⟩
    simp [if_spec_someGraph]
  have h1 : (0 : Int) < es.length := by omega
  have h1' : 0 < es.length := by omega
  obtain ⟨v, k2, hv, hk2, e2⟩ := pickA code c hc k1 (by omega) (es.length : Int) (by omega) A bs (Ms ++ [[]])
  have hv := hv (by omega)
  have hvl : v < es.length := by omega
  obtain ⟨u, k3, -, hk3, e3⟩ := pickA code c hc k2 (by omega) 30 (by omega) A bs (Ms ++ [[]])
  have hev := hS.el es[v] (List.getElem_mem hvl)
  by_cases hu0 : u = 0
  · subst hu0
    obtain ⟨x, k4, hx, hk4, e4⟩ := oneA code c hc k3 (by omega) [-1, 7, es[v].2] (by simp) A bs (Ms ++ [[]])
    have hx : -1 ≤ x ∧ x ≤ 8 := by simp at hx; omega
    repeat (first | apply wp_as | apply wp_ss | refine wr (by simp [e1, e2, e3, h1, h1']; with_reducible rfl) ?_ | refine wq (by simp [e1, e2, e3, h1, h1']; with_reducible rfl) ?_ | refine wt (by simpa [e1, e2, e3, h1, h1']) ?_ | refine wf (by simpa [e1, e2, e3, h1, h1']) ?_ | refine xt (by simpa [e1, e2, e3, h1, h1']) ?_ | refine xf (by simpa [e1, e2, e3, h1, h1']) ?_ | apply wp_bs | apply wp_b | refine wp_sr ?_ | refine wp_sx ?_ | refine wp_ret' ?_ | refine wp_skip' ?_ | refine wp_exit' ?_)
    refine wp_rega (by simp [hvl, e4]; with_reducible rfl) (by simp; with_reducible rfl) ?_ ?_
    · intro p hp
      simp only [List.mem_cons, List.not_mem_nil, or_false] at hp
      rcases hp with rfl | rfl
      · exact ⟨_, by simp [hvl, e4]; with_reducible rfl, by simp⟩
      · exact ⟨_, by simp [hvl, e4]; with_reducible rfl, by simp⟩
    repeat (first | apply wp_as | apply wp_ss | refine wr (by simp; with_reducible rfl) ?_ | refine wq (by simp; with_reducible rfl) ?_ | refine wt (by simpa) ?_ | refine wf (by simpa) ?_ | refine xt (by simpa) ?_ | refine xf (by simpa) ?_ | apply wp_bs | apply wp_b | refine wp_sr ?_ | refine wp_sx ?_ | refine wp_ret' ?_ | refine wp_skip' ?_ | refine wp_exit' ?_)
    refine ⟨.inr rfl, _, ⟨n, es.set v (x, es[v].2), k4, small_set hS ⟨by omega, by omega, by omega, by omega⟩, by omega, rfl⟩, ?_⟩
    simp [if_spec_someGraph]
    rw [List.take_of_length_le (by simp)]
  by_cases hu1 : u = 1
  · subst hu1
    have hap : SmallG n (es ++ [es[v]]) := ⟨hS.n1, hS.n2, by have := prs_len hn7 hs; simp; omega, fun e he => by
      rcases List.mem_append.1 he with he | he
      · exact hS.el e he
      · simp at he; subst he; exact hev⟩
    have hlm : es.length + 1 ≤ 274877906944 := by omega
    repeat (first | apply wp_as | apply wp_ss | refine wr (by simp [e1, e2, e3, h1, h1']; with_reducible rfl) ?_ | refine wq (by simp [e1, e2, e3, h1, h1']; with_reducible rfl) ?_ | refine wt (by simpa [e1, e2, e3, h1, h1']) ?_ | refine wf (by simpa [e1, e2, e3, h1, h1']) ?_ | refine xt (by simpa [e1, e2, e3, h1, h1']) ?_ | refine xf (by simpa [e1, e2, e3, h1, h1']) ?_ | apply wp_bs | apply wp_b | refine wp_sr ?_ | refine wp_sx ?_ | refine wp_ret' ?_ | refine wp_skip' ?_ | refine wp_exit' ?_)
    refine wp_rega (by simp [hvl, hlm]; with_reducible rfl) (by simp; with_reducible rfl) ?_ ?_
    · intro p hp
      simp only [List.mem_cons, List.not_mem_nil, or_false] at hp
      subst hp
      exact ⟨_, by simp [hvl, hlm]; with_reducible rfl, by simp⟩
    repeat (first | apply wp_as | apply wp_ss | refine wr (by simp; with_reducible rfl) ?_ | refine wq (by simp; with_reducible rfl) ?_ | refine wt (by simpa) ?_ | refine wf (by simpa) ?_ | refine xt (by simpa) ?_ | refine xf (by simpa) ?_ | apply wp_bs | apply wp_b | refine wp_sr ?_ | refine wp_sx ?_ | refine wp_ret' ?_ | refine wp_skip' ?_ | refine wp_exit' ?_)
    refine ⟨.inr rfl, _, ⟨n, es ++ [es[v]], k3, hap, by omega, rfl⟩, ?_⟩
    simp [if_spec_someGraph]
    rw [List.take_of_length_le (by simp)]
  have hu0' : ¬ (u : Int) = 0 := by omega
  have hu1' : ¬ (u : Int) = 1 := by omega
  by_cases hu2 : u = 2
  · subst hu2
    obtain ⟨x, k4, hx, hk4, e4⟩ := oneA code c hc k3 (by omega) [-1, 8, 2] (by simp) A bs (Ms ++ [[]])
    have hx : -1 ≤ x ∧ x ≤ 8 := by simp at hx; omega
    repeat (first | apply wp_as | apply wp_ss | refine wr (by simp [e1, e2, e3, e4, h1, h1']; with_reducible rfl) ?_ | refine wq (by simp [e1, e2, e3, e4, h1, h1']; with_reducible rfl) ?_ | refine wt (by simpa [e1, e2, e3, e4, h1, h1']) ?_ | refine wf (by simpa [e1, e2, e3, e4, h1, h1']) ?_ | refine xt (by simpa [e1, e2, e3, e4, h1, h1']) ?_ | refine xf (by simpa [e1, e2, e3, e4, h1, h1']) ?_ | apply wp_bs | apply wp_b | refine wp_sr ?_ | refine wp_sx ?_ | refine wp_ret' ?_ | refine wp_skip' ?_ | refine wp_exit' ?_)
    refine ⟨.inr rfl, _, ⟨x, es, k4, ⟨hx.1, hx.2, hS.len, hS.el⟩, by omega, rfl⟩, ?_⟩
    simp [if_spec_someGraph]
  · have hu2' : ¬ (u : Int) = 2 := by omega
    repeat (first | apply wp_as | apply wp_ss | refine wr (by simp [e1, e2, e3, h1, h1', hu0, hu1, hu2, hu0', hu1', hu2']; with_reducible rfl) ?_ | refine wq (by simp [e1, e2, e3, h1, h1', hu0, hu1, hu2, hu0', hu1', hu2']; with_reducible rfl) ?_ | refine wt (by simpa [e1, e2, e3, h1, h1', hu0, hu1, hu2, hu0', hu1', hu2']) ?_ | refine wf (by simpa [e1, e2, e3, h1, h1', hu0, hu1, hu2, hu0', hu1', hu2']) ?_ | refine xt (by simpa [e1, e2, e3, h1, h1', hu0, hu1, hu2, hu0', hu1', hu2']) ?_ | refine xf (by simpa [e1, e2, e3, h1, h1', hu0, hu1, hu2, hu0', hu1', hu2']) ?_ | apply wp_bs | apply wp_b | refine wp_sr ?_ | refine wp_sx ?_ | refine wp_ret' ?_ | refine wp_skip' ?_ | refine wp_exit' ?_)
    refine ⟨.inr rfl, _, ⟨n, es, k3, hS, by omega, rfl⟩, ?_⟩
    simp [if_spec_someGraph]

end Go.Idl

namespace Go.Idl

open Go

/-- The first of the numbers from i on. -/
def rgF (n i : Nat) : List Int := ((List.range n).drop i).map fun v : Nat => (v : Int)

theorem rgF_cons {n i : Nat} (h : i < n) : rgF n i = (i : Int) :: rgF n (i + 1) := by
  rw [rgF, rgF, List.drop_eq_getElem_cons (by simpa using h)]; simp

theorem rgF_end (n : Nat) : rgF n n = [] := by simp [rgF]

theorem rgF_all (n : Nat) : rgF n 0 = idxB n (-1) := by rw [rgF, idxB_all, List.drop_zero]

end Go.Idl

namespace Go.Idl

open Go

def nlT : List (List Int) → IV
  | [] => Z
  | x :: r => OT (x :: r)

theorem ev_ClipT (t : List (List Int)) : Ev tb l_slices_Clip_SSint_Sint_ [] [nlT t] [] ⟨nlT t, [], [], []⟩ := by
  cases t with
  | nil =>
    simp only [nlT]
    refine call_of_wp tb_slices_Clip_SSint_Sint_ rfl ?_
    repeat (first | apply wp_as | apply wp_ss | refine wr (by simp; with_reducible rfl) ?_ | refine wq (by simp; with_reducible rfl) ?_ | refine wt (by simpa) ?_ | refine wf (by simpa) ?_ | refine xt (by simpa) ?_ | refine xf (by simpa) ?_ | apply wp_bs | apply wp_b | refine wp_sr ?_ | refine wp_sx ?_ | refine wp_ret' ?_ | refine wp_skip' ?_ | refine wp_exit' ?_)
    simp [if_slices_Clip_SSint_Sint_]
  | cons x t =>
    simp only [nlT]
    have h2 : (oab (x :: t)).take (t.length + 1) = oab (x :: t) := List.take_of_length_le (by simp)
    refine call_of_wp tb_slices_Clip_SSint_Sint_ rfl ?_
    repeat (first | apply wp_as | apply wp_ss | refine wr (by simp [h2]; with_reducible rfl) ?_ | refine wq (by simp [h2]; with_reducible rfl) ?_ | refine wt (by simpa [h2]) ?_ | refine wf (by simpa [h2]) ?_ | refine xt (by simpa [h2]) ?_ | refine xf (by simpa [h2]) ?_ | apply wp_bs | apply wp_b | refine wp_sr ?_ | refine wp_sx ?_ | refine wp_ret' ?_ | refine wp_skip' ?_ | refine wp_exit' ?_)
    simp [if_slices_Clip_SSint_Sint_, h2]

def inP (rt : List Int) (r : Int) (v : Int) : Bool := decide (rt.getD v.toNat 0 = r)

def isR (rt : List Int) (v : Int) : Bool := inP rt v v

def partsF (n : Nat) (rt : List Int) (i : Nat) : List (List Int) := ((rgF n i).filter (isR rt)).map fun r => (rgF n 0).filter (inP rt r)

theorem co_in (n : Nat) (hn : n ≤ 7) (rt : List Int) (hl : rt.length = n) (acc : List (List Int)) (r : Nat) (B : Boxes) : ∀ (m i : Nat) (part : List Int), i + m = n → part.length ≤ i →
    wp tb (.loop ic_impl_Graph_components_l14) { T := [(3, nlT acc), (4, O rt), (5, I r), (6, nlI part), (12, I n), (13, I r), (22, .arr (.S 4) 0 [] 1 0 n false), (23, I n), (24, I i)], loc := B, M := [] }
      (fun ex st => ex = .exit 2 ∧ st = { T := [(3, nlT acc), (4, O rt), (5, I r), (6, nlI (part ++ (rgF n i).filter (inP rt r))), (12, I n), (13, I r), (22, .arr (.S 4) 0 [] 1 0 n false), (23, I n), (24, I n), (25, Bo false)], loc := B, M := [] }) := by
  intro m
  induction m with
  | zero =>
    intro i part hi hp
    have h3 : i = n := hi
    subst h3
    rw [rgF_end, List.filter_nil, List.append_nil]
    cases acc <;> cases part <;> simp only [nlT, nlI]
    · refine wp_loop ?_
      repeat (first | apply wp_as | apply wp_ss | refine wr (by simp; with_reducible rfl) ?_ | refine wq (by simp; with_reducible rfl) ?_ | refine wt (by simpa) ?_ | refine wf (by simpa) ?_ | refine xt (by simpa) ?_ | refine xf (by simpa) ?_ | apply wp_bs | apply wp_b | refine wp_sr ?_ | refine wp_sx ?_ | refine wp_ret' ?_ | refine wp_skip' ?_ | refine wp_exit' ?_)
      exact ⟨rfl, rfl⟩
    · refine wp_loop ?_
      repeat (first | apply wp_as | apply wp_ss | refine wr (by simp; with_reducible rfl) ?_ | refine wq (by simp; with_reducible rfl) ?_ | refine wt (by simpa) ?_ | refine wf (by simpa) ?_ | refine xt (by simpa) ?_ | refine xf (by simpa) ?_ | apply wp_bs | apply wp_b | refine wp_sr ?_ | refine wp_sx ?_ | refine wp_ret' ?_ | refine wp_skip' ?_ | refine wp_exit' ?_)
      exact ⟨rfl, rfl⟩
    · refine wp_loop ?_
      repeat (first | apply wp_as | apply wp_ss | refine wr (by simp; with_reducible rfl) ?_ | refine wq (by simp; with_reducible rfl) ?_ | refine wt (by simpa) ?_ | refine wf (by simpa) ?_ | refine xt (by simpa) ?_ | refine xf (by simpa) ?_ | apply wp_bs | apply wp_b | refine wp_sr ?_ | refine wp_sx ?_ | refine wp_ret' ?_ | refine wp_skip' ?_ | refine wp_exit' ?_)
      exact ⟨rfl, rfl⟩
    · refine wp_loop ?_
      repeat (first | apply wp_as | apply wp_ss | refine wr (by simp; with_reducible rfl) ?_ | refine wq (by simp; with_reducible rfl) ?_ | refine wt (by simpa) ?_ | refine wf (by simpa) ?_ | refine xt (by simpa) ?_ | refine xf (by simpa) ?_ | apply wp_bs | apply wp_b | refine wp_sr ?_ | refine wp_sx ?_ | refine wp_ret' ?_ | refine wp_skip' ?_ | refine wp_exit' ?_)
      exact ⟨rfl, rfl⟩
  | succ m ih =>
    intro i part hi hp
    have hi2 : i < n := by omega
    have hil : i < rt.length := by omega
    have w1 : IntKind.i64.wrap ((i : Int) + 1) = ((i + 1 : Nat) : Int) := wrapS (by omega)
    have gi : rt.getD i 0 = rt[i] := by rw [List.getD_eq_getElem?_getD, List.getElem?_eq_getElem hil]; rfl
    rw [rgF_cons hi2]
    by_cases hq : rt[i] = (r : Int)
    · have hpr : inP rt r (i : Int) = true := by rw [inP, Int.toNat_natCast, gi]; exact decide_eq_true hq
      rw [List.filter_cons_of_pos hpr]
      have hn2 := ih (i + 1) (part ++ [(i : Int)]) (by omega) (by simp; omega)
      rw [List.append_assoc, List.cons_append, List.nil_append] at hn2
      have hl1 : part.length + 1 ≤ 274877906944 := by omega
      have hT : ∀ x : Int, List.take (part.length + 1) (part ++ [x]) = part ++ [x] := fun x => List.take_of_length_le (by simp)
      have hT2 : List.take part.length part = part := List.take_of_length_le (Nat.le_refl _)
      cases part with
      | nil =>
        rw [List.nil_append] at hn2 ⊢
        have hn2 : wp tb (.loop ic_impl_Graph_components_l14) { T := [(3, nlT acc), (4, O rt), (5, I r), (6, O [(i : Int)]), (12, I n), (13, I r), (22, .arr (.S 4) 0 [] 1 0 n false), (23, I n), (24, I ((i + 1 : Nat) : Int))], loc := B, M := [] } _ := hn2
        cases acc <;> simp only [nlT, nlI] at hn2 ⊢
        · refine wp_loop ?_
          repeat (first | apply wp_as | apply wp_ss | refine wr (by simp [hi2, hil, hl, hq, w1]; with_reducible rfl) ?_ | refine wq (by simp [hi2, hil, hl, hq, w1]; with_reducible rfl) ?_ | refine wt (by simpa [hi2, hil, hl, hq, w1]) ?_ | refine wf (by simpa [hi2, hil, hl, hq, w1]) ?_ | refine xt (by simpa [hi2, hil, hl, hq, w1]) ?_ | refine xf (by simpa [hi2, hil, hl, hq, w1]) ?_ | apply wp_bs | apply wp_b | refine wp_sr ?_ | refine wp_sx ?_ | refine wp_ret' ?_ | refine wp_skip' ?_ | refine wp_exit' ?_)
          exact hn2
        · refine wp_loop ?_
          repeat (first | apply wp_as | apply wp_ss | refine wr (by simp [hi2, hil, hl, hq, w1]; with_reducible rfl) ?_ | refine wq (by simp [hi2, hil, hl, hq, w1]; with_reducible rfl) ?_ | refine wt (by simpa [hi2, hil, hl, hq, w1]) ?_ | refine wf (by simpa [hi2, hil, hl, hq, w1]) ?_ | refine xt (by simpa [hi2, hil, hl, hq, w1]) ?_ | refine xf (by simpa [hi2, hil, hl, hq, w1]) ?_ | apply wp_bs | apply wp_b | refine wp_sr ?_ | refine wp_sx ?_ | refine wp_ret' ?_ | refine wp_skip' ?_ | refine wp_exit' ?_)
          exact hn2
      | cons y ys =>
        rw [List.cons_append] at hn2
        simp only [List.length_cons, List.cons_append] at hl1 hT hT2
        have hn2 : wp tb (.loop ic_impl_Graph_components_l14) { T := [(3, nlT acc), (4, O rt), (5, I r), (6, O (y :: (ys ++ [(i : Int)]))), (12, I n), (13, I r), (22, .arr (.S 4) 0 [] 1 0 n false), (23, I n), (24, I ((i + 1 : Nat) : Int))], loc := B, M := [] } _ := hn2
        cases acc <;> simp only [nlT, nlI] at hn2 ⊢
        · refine wp_loop ?_
          repeat (first | apply wp_as | apply wp_ss | refine wr (by simp [hi2, hil, hl, hq, w1, hl1, hT, hT2]; with_reducible rfl) ?_ | refine wq (by simp [hi2, hil, hl, hq, w1, hl1, hT, hT2]; with_reducible rfl) ?_ | refine wt (by simpa [hi2, hil, hl, hq, w1, hl1, hT, hT2]) ?_ | refine wf (by simpa [hi2, hil, hl, hq, w1, hl1, hT, hT2]) ?_ | refine xt (by simpa [hi2, hil, hl, hq, w1, hl1, hT, hT2]) ?_ | refine xf (by simpa [hi2, hil, hl, hq, w1, hl1, hT, hT2]) ?_ | apply wp_bs | apply wp_b | refine wp_sr ?_ | refine wp_sx ?_ | refine wp_ret' ?_ | refine wp_skip' ?_ | refine wp_exit' ?_)
          exact hn2
        · refine wp_loop ?_
          repeat (first | apply wp_as | apply wp_ss | refine wr (by simp [hi2, hil, hl, hq, w1, hl1, hT, hT2]; with_reducible rfl) ?_ | refine wq (by simp [hi2, hil, hl, hq, w1, hl1, hT, hT2]; with_reducible rfl) ?_ | refine wt (by simpa [hi2, hil, hl, hq, w1, hl1, hT, hT2]) ?_ | refine wf (by simpa [hi2, hil, hl, hq, w1, hl1, hT, hT2]) ?_ | refine xt (by simpa [hi2, hil, hl, hq, w1, hl1, hT, hT2]) ?_ | refine xf (by simpa [hi2, hil, hl, hq, w1, hl1, hT, hT2]) ?_ | apply wp_bs | apply wp_b | refine wp_sr ?_ | refine wp_sx ?_ | refine wp_ret' ?_ | refine wp_skip' ?_ | refine wp_exit' ?_)
          exact hn2
    · have hpr : ¬ inP rt r (i : Int) = true := by rw [inP, Int.toNat_natCast, gi, decide_eq_true_eq]; exact hq
      rw [List.filter_cons_of_neg hpr]
      have hn2 := ih (i + 1) part (by omega) (by omega)
      cases acc <;> cases part <;> simp only [nlT, nlI] at hn2 ⊢
      · refine wp_loop ?_
        repeat (first | apply wp_as | apply wp_ss | refine wr (by simp [hi2, hil, hl, hq, w1]; with_reducible rfl) ?_ | refine wq (by simp [hi2, hil, hl, hq, w1]; with_reducible rfl) ?_ | refine wt (by simpa [hi2, hil, hl, hq, w1]) ?_ | refine wf (by simpa [hi2, hil, hl, hq, w1]) ?_ | refine xt (by simpa [hi2, hil, hl, hq, w1]) ?_ | refine xf (by simpa [hi2, hil, hl, hq, w1]) ?_ | apply wp_bs | apply wp_b | refine wp_sr ?_ | refine wp_sx ?_ | refine wp_ret' ?_ | refine wp_skip' ?_ | refine wp_exit' ?_)
        exact hn2
      · refine wp_loop ?_
        repeat (first | apply wp_as | apply wp_ss | refine wr (by simp [hi2, hil, hl, hq, w1]; with_reducible rfl) ?_ | refine wq (by simp [hi2, hil, hl, hq, w1]; with_reducible rfl) ?_ | refine wt (by simpa [hi2, hil, hl, hq, w1]) ?_ | refine wf (by simpa [hi2, hil, hl, hq, w1]) ?_ | refine xt (by simpa [hi2, hil, hl, hq, w1]) ?_ | refine xf (by simpa [hi2, hil, hl, hq, w1]) ?_ | apply wp_bs | apply wp_b | refine wp_sr ?_ | refine wp_sx ?_ | refine wp_ret' ?_ | refine wp_skip' ?_ | refine wp_exit' ?_)
        exact hn2
      · refine wp_loop ?_
        repeat (first | apply wp_as | apply wp_ss | refine wr (by simp [hi2, hil, hl, hq, w1]; with_reducible rfl) ?_ | refine wq (by simp [hi2, hil, hl, hq, w1]; with_reducible rfl) ?_ | refine wt (by simpa [hi2, hil, hl, hq, w1]) ?_ | refine wf (by simpa [hi2, hil, hl, hq, w1]) ?_ | refine xt (by simpa [hi2, hil, hl, hq, w1]) ?_ | refine xf (by simpa [hi2, hil, hl, hq, w1]) ?_ | apply wp_bs | apply wp_b | refine wp_sr ?_ | refine wp_sx ?_ | refine wp_ret' ?_ | refine wp_skip' ?_ | refine wp_exit' ?_)
        exact hn2
      · refine wp_loop ?_
        repeat (first | apply wp_as | apply wp_ss | refine wr (by simp [hi2, hil, hl, hq, w1]; with_reducible rfl) ?_ | refine wq (by simp [hi2, hil, hl, hq, w1]; with_reducible rfl) ?_ | refine wt (by simpa [hi2, hil, hl, hq, w1]) ?_ | refine wf (by simpa [hi2, hil, hl, hq, w1]) ?_ | refine xt (by simpa [hi2, hil, hl, hq, w1]) ?_ | refine xf (by simpa [hi2, hil, hl, hq, w1]) ?_ | apply wp_bs | apply wp_b | refine wp_sr ?_ | refine wp_sx ?_ | refine wp_ret' ?_ | refine wp_skip' ?_ | refine wp_exit' ?_)
        exact hn2

theorem nlI_filter {xs : List Int} {p : Int → Bool} {r : Int} (h : r ∈ xs) (hp : p r = true) : ∃ y ys, xs.filter p = y :: ys := by
  cases hq : xs.filter p with
  | nil => have : r ∈ xs.filter p := List.mem_filter.2 ⟨h, hp⟩; rw [hq] at this; cases this
  | cons y ys => exact ⟨y, ys, rfl⟩

theorem mem_rgF {n i : Nat} {x : Int} : x ∈ rgF n i ↔ (i : Int) ≤ x ∧ x < n := by
  rw [rgF, List.mem_map]
  constructor
  · rintro ⟨a, ha, rfl⟩
    obtain ⟨j, hj, rfl⟩ := List.mem_iff_getElem.1 ha
    simp only [List.length_drop, List.length_range] at hj
    simp only [List.getElem_drop, List.getElem_range]; omega
  · rintro ⟨h1, h2⟩
    obtain ⟨k, rfl⟩ := Int.eq_ofNat_of_zero_le (show 0 ≤ x by omega)
    refine ⟨k, List.mem_iff_getElem.2 ⟨k - i, by simp; omega, ?_⟩, rfl⟩
    simp only [List.getElem_drop, List.getElem_range]; omega

theorem co_out (n : Nat) (hn : n ≤ 7) (rt : List Int) (hl : rt.length = n) (B : Boxes) : ∀ (m r : Nat) (acc : List (List Int)), r + m = n → acc.length ≤ r →
    wp tb (.loop ic_impl_Graph_components_l17) { T := [(3, nlT acc), (4, O rt), (12, I n), (13, I r)], loc := B, M := [] }
      (fun ex st => ex = .exit 0 ∧ st = { T := [(3, nlT (acc ++ partsF n rt r)), (4, O rt), (12, I n), (13, I n), (14, Bo false)], loc := B, M := [] }) := by
  intro m
  induction m with
  | zero =>
    intro r acc hr ha
    have h3 : r = n := hr
    subst h3
    rw [partsF, rgF_end, List.filter_nil, List.map_nil, List.append_nil]
    cases acc <;> simp only [nlT]
    · refine wp_loop ?_
      repeat (first | apply wp_as | apply wp_ss | refine wr (by simp; with_reducible rfl) ?_ | refine wq (by simp; with_reducible rfl) ?_ | refine wt (by simpa) ?_ | refine wf (by simpa) ?_ | refine xt (by simpa) ?_ | refine xf (by simpa) ?_ | apply wp_bs | apply wp_b | refine wp_sr ?_ | refine wp_sx ?_ | refine wp_ret' ?_ | refine wp_skip' ?_ | refine wp_exit' ?_)
      exact ⟨rfl, rfl⟩
    · refine wp_loop ?_
      repeat (first | apply wp_as | apply wp_ss | refine wr (by simp; with_reducible rfl) ?_ | refine wq (by simp; with_reducible rfl) ?_ | refine wt (by simpa) ?_ | refine wf (by simpa) ?_ | refine xt (by simpa) ?_ | refine xf (by simpa) ?_ | apply wp_bs | apply wp_b | refine wp_sr ?_ | refine wp_sx ?_ | refine wp_ret' ?_ | refine wp_skip' ?_ | refine wp_exit' ?_)
      exact ⟨rfl, rfl⟩
  | succ m ih =>
    intro r acc hr ha
    have hr2 : r < n := by omega
    have hrl : r < rt.length := by omega
    have w1 : IntKind.i64.wrap ((r : Int) + 1) = ((r + 1 : Nat) : Int) := wrapS (by omega)
    have gi : rt.getD r 0 = rt[r] := by rw [List.getD_eq_getElem?_getD, List.getElem?_eq_getElem hrl]; rfl
    rw [partsF, rgF_cons hr2]
    by_cases hq : rt[r] = (r : Int)
    · have hpr : isR rt (r : Int) = true := by rw [isR, inP, Int.toNat_natCast, gi]; exact decide_eq_true hq
      rw [List.filter_cons_of_pos hpr, List.map_cons]
      obtain ⟨y, ys, hy⟩ := nlI_filter (xs := rgF n 0) (p := inP rt r) (mem_rgF.2 ⟨by omega, by omega⟩) hpr
      have hn2 := ih (r + 1) (acc ++ [(rgF n 0).filter (inP rt r)]) (by omega) (by simp; omega)
      rw [List.append_assoc, List.cons_append, List.nil_append, partsF] at hn2
      have inner := co_in n hn rt hl acc r B n 0 [] (by omega) (by simp)
      rw [List.nil_append, hy] at inner
      rw [hy] at hn2 ⊢
      have e1 := ev_lim (ev_Clip (y :: ys))
      have hl1 : acc.length + 1 ≤ 274877906944 := by omega
      have hT : ∀ x : List Int, List.take (acc.length + 1) (acc ++ [x]) = acc ++ [x] := fun x => List.take_of_length_le (by simp)
      have hT2 : List.take acc.length acc = acc := List.take_of_length_le (Nat.le_refl _)
      cases acc with
      | nil =>
        simp only [List.nil_append, nlT, nlI] at hn2 inner ⊢
        rw [show ((0 : Nat) : Int) = 0 from rfl] at inner
        refine wp_loop ?_
        repeat (first | apply wp_as | apply wp_ss | refine wr (by simp [hr2, hrl, hl, hq]; with_reducible rfl) ?_ | refine wq (by simp [hr2, hrl, hl, hq]; with_reducible rfl) ?_ | refine wt (by simpa [hr2, hrl, hl, hq]) ?_ | refine wf (by simpa [hr2, hrl, hl, hq]) ?_ | refine xt (by simpa [hr2, hrl, hl, hq]) ?_ | refine xf (by simpa [hr2, hrl, hl, hq]) ?_ | apply wp_bs | apply wp_b | refine wp_sr ?_ | refine wp_sx ?_ | refine wp_ret' ?_ | refine wp_skip' ?_ | refine wp_exit' ?_)
        refine wp_imp inner ?_
        rintro ex st ⟨rfl, rfl⟩
        simp only [if_true]
        repeat (first | apply wp_as | apply wp_ss | refine wr (by simp [e1, w1]; with_reducible rfl) ?_ | refine wq (by simp [e1, w1]; with_reducible rfl) ?_ | refine wt (by simpa [e1, w1]) ?_ | refine wf (by simpa [e1, w1]) ?_ | refine xt (by simpa [e1, w1]) ?_ | refine xf (by simpa [e1, w1]) ?_ | apply wp_bs | apply wp_b | refine wp_sr ?_ | refine wp_sx ?_ | refine wp_ret' ?_ | refine wp_skip' ?_ | refine wp_exit' ?_)
        exact hn2
      | cons a as =>
        simp only [List.cons_append, nlT, nlI] at hn2 inner ⊢
        simp only [List.length_cons, List.cons_append] at hl1 hT hT2
        rw [show ((0 : Nat) : Int) = 0 from rfl] at inner
        refine wp_loop ?_
        repeat (first | apply wp_as | apply wp_ss | refine wr (by simp [hr2, hrl, hl, hq]; with_reducible rfl) ?_ | refine wq (by simp [hr2, hrl, hl, hq]; with_reducible rfl) ?_ | refine wt (by simpa [hr2, hrl, hl, hq]) ?_ | refine wf (by simpa [hr2, hrl, hl, hq]) ?_ | refine xt (by simpa [hr2, hrl, hl, hq]) ?_ | refine xf (by simpa [hr2, hrl, hl, hq]) ?_ | apply wp_bs | apply wp_b | refine wp_sr ?_ | refine wp_sx ?_ | refine wp_ret' ?_ | refine wp_skip' ?_ | refine wp_exit' ?_)
        refine wp_imp inner ?_
        rintro ex st ⟨rfl, rfl⟩
        simp only [if_true]
        repeat (first | apply wp_as | apply wp_ss | refine wr (by simp [e1, w1, hl1, hT, hT2]; with_reducible rfl) ?_ | refine wq (by simp [e1, w1, hl1, hT, hT2]; with_reducible rfl) ?_ | refine wt (by simpa [e1, w1, hl1, hT, hT2]) ?_ | refine wf (by simpa [e1, w1, hl1, hT, hT2]) ?_ | refine xt (by simpa [e1, w1, hl1, hT, hT2]) ?_ | refine xf (by simpa [e1, w1, hl1, hT, hT2]) ?_ | apply wp_bs | apply wp_b | refine wp_sr ?_ | refine wp_sx ?_ | refine wp_ret' ?_ | refine wp_skip' ?_ | refine wp_exit' ?_)
        exact hn2
    · have hpr : ¬ isR rt (r : Int) = true := by rw [isR, inP, Int.toNat_natCast, gi, decide_eq_true_eq]; exact hq
      rw [List.filter_cons_of_neg hpr]
      have hn2 := ih (r + 1) acc (by omega) (by omega)
      cases acc <;> simp only [nlT] at hn2 ⊢
      · refine wp_loop ?_
        repeat (first | apply wp_as | apply wp_ss | refine wr (by simp [hr2, hrl, hl, hq, w1]; with_reducible rfl) ?_ | refine wq (by simp [hr2, hrl, hl, hq, w1]; with_reducible rfl) ?_ | refine wt (by simpa [hr2, hrl, hl, hq, w1]) ?_ | refine wf (by simpa [hr2, hrl, hl, hq, w1]) ?_ | refine xt (by simpa [hr2, hrl, hl, hq, w1]) ?_ | refine xf (by simpa [hr2, hrl, hl, hq, w1]) ?_ | apply wp_bs | apply wp_b | refine wp_sr ?_ | refine wp_sx ?_ | refine wp_ret' ?_ | refine wp_skip' ?_ | refine wp_exit' ?_)
        exact hn2
      · refine wp_loop ?_
        repeat (first | apply wp_as | apply wp_ss | refine wr (by simp [hr2, hrl, hl, hq, w1]; with_reducible rfl) ?_ | refine wq (by simp [hr2, hrl, hl, hq, w1]; with_reducible rfl) ?_ | refine wt (by simpa [hr2, hrl, hl, hq, w1]) ?_ | refine wf (by simpa [hr2, hrl, hl, hq, w1]) ?_ | refine xt (by simpa [hr2, hrl, hl, hq, w1]) ?_ | refine xf (by simpa [hr2, hrl, hl, hq, w1]) ?_ | apply wp_bs | apply wp_b | refine wp_sr ?_ | refine wp_sx ?_ | refine wp_ret' ?_ | refine wp_skip' ?_ | refine wp_exit' ?_)
        exact hn2

/-- The components, as the program finds them. -/
def compI (n : Nat) (es : List (Int × Int)) : List (List Int) := partsF n (rnds es n (idxB n (-1))) 0

theorem ev_components (n : Nat) (hn1 : 1 ≤ n) (hn7 : n ≤ 7) (e0 : Nat) (es : List (Int × Int)) (c : Bool) (he0 : e0 = 2 ∨ es = []) (hes : ∀ e ∈ es, 0 ≤ e.1 ∧ e.1 < n ∧ 0 ≤ e.2 ∧ e.2 < n) (hel : es.length ≤ 1000) :
    Ev tb l_impl_Graph_components [] [.agg [I n, .lst e0 (eds es) c]] [] ⟨nlT (compI n es), [], [], []⟩ := by
  have e1 := ev_lim (ev_roots n hn1 hn7 e0 es c he0 hes hel)
  have hrl : (rnds es n (idxB n (-1))).length = n := by rw [rnds_len, idxB_all]; simp
  rw [compI]
  generalize rnds es n (idxB n (-1)) = rt at *
  have loop := co_out n hn7 rt hrl [[I n, .lst e0 (eds es) c]] n 0 [] (by omega) (by simp)
  rw [List.nil_append, show ((0 : Nat) : Int) = 0 from rfl] at loop
  simp only [nlT] at loop
  have e2 := ev_lim (ev_ClipT (partsF n rt 0))
  generalize partsF n rt 0 = P at *
  refine call_of_wp tb_impl_Graph_components rfl ?_
  repeat (first | apply wp_as | apply wp_ss | refine wr (by simp [e1]; with_reducible rfl) ?_ | refine wq (by simp [e1]; with_reducible rfl) ?_ | refine wt (by simpa [e1]) ?_ | refine wf (by simpa [e1]) ?_ | refine xt (by simpa [e1]) ?_ | refine xf (by simpa [e1]) ?_ | apply wp_bs | apply wp_b | refine wp_sr ?_ | refine wp_sx ?_ | refine wp_ret' ?_ | refine wp_skip' ?_ | refine wp_exit' ?_)
  refine wp_imp loop ?_
  rintro ex st ⟨rfl, rfl⟩
  simp only [if_true]
  cases P with
  | nil =>
    simp only [nlT] at e2 ⊢
    repeat (first | apply wp_as | apply wp_ss | refine wr (by simp [e2]; with_reducible rfl) ?_ | refine wq (by simp [e2]; with_reducible rfl) ?_ | refine wt (by simpa [e2]) ?_ | refine wf (by simpa [e2]) ?_ | refine xt (by simpa [e2]) ?_ | refine xf (by simpa [e2]) ?_ | apply wp_bs | apply wp_b | refine wp_sr ?_ | refine wp_sx ?_ | refine wp_ret' ?_ | refine wp_skip' ?_ | refine wp_exit' ?_)
    simp [if_impl_Graph_components]
  | cons p P =>
    simp only [nlT] at e2 ⊢
    repeat (first | apply wp_as | apply wp_ss | refine wr (by simp [e2]; with_reducible rfl) ?_ | refine wq (by simp [e2]; with_reducible rfl) ?_ | refine wt (by simpa [e2]) ?_ | refine wf (by simpa [e2]) ?_ | refine xt (by simpa [e2]) ?_ | refine xf (by simpa [e2]) ?_ | apply wp_bs | apply wp_b | refine wp_sr ?_ | refine wp_sx ?_ | refine wp_ret' ?_ | refine wp_skip' ?_ | refine wp_exit' ?_)
    simp [if_impl_Graph_components]

theorem ev_IsConnected (n : Nat) (hn1 : 1 ≤ n) (e0 : Nat) (es : List (Int × Int)) (c : Bool) (he0 : e0 = 2 ∨ es = []) (hel : es.length ≤ 1000) (hv : vGraph n es = true) (v1 : limF tb l_impl_ValidGraph [] [.agg [I n, .lst e0 (eds es) c]] [] = some ⟨Bo true, [], [], []⟩) :
    Ev tb l_impl_IsConnected [] [.agg [I n, .lst e0 (eds es) c]] [] ⟨Bo (decide ((compI n es).length = 1)), [], [], []⟩ := by
  have hes : ∀ e ∈ es, 0 ≤ e.1 ∧ e.1 < n ∧ 0 ≤ e.2 ∧ e.2 < n := fun e he => by have := mem_prs.1 ((vG_iff.1 hv).2.1 e he); omega
  have e1 := ev_lim (ev_components n hn1 (vG_iff.1 hv).2.2 e0 es c he0 hes hel)
  generalize compI n es = P at *
  cases P with
  | nil =>
    simp only [nlT] at e1
    refine call_of_wp tb_impl_IsConnected rfl ?_
    repeat (first | apply wp_as | apply wp_ss | refine wr (by simp [v1, e1]; with_reducible rfl) ?_ | refine wq (by simp [v1, e1]; with_reducible rfl) ?_ | refine wt (by simpa [v1, e1]) ?_ | refine wf (by simpa [v1, e1]) ?_ | refine xt (by simpa [v1, e1]) ?_ | refine xf (by simpa [v1, e1]) ?_ | apply wp_bs | apply wp_b | refine wp_sr ?_ | refine wp_sx ?_ | refine wp_ret' ?_ | refine wp_skip' ?_ | refine wp_exit' ?_)
    simp [if_impl_IsConnected]
  | cons p P =>
    simp only [nlT] at e1
    by_cases h1 : P.length = 0
    · have h1' : P = [] := List.length_eq_zero_iff.1 h1
      subst h1'
      refine call_of_wp tb_impl_IsConnected rfl ?_
      repeat (first | apply wp_as | apply wp_ss | refine wr (by simp [v1, e1]; with_reducible rfl) ?_ | refine wq (by simp [v1, e1]; with_reducible rfl) ?_ | refine wt (by simpa [v1, e1]) ?_ | refine wf (by simpa [v1, e1]) ?_ | refine xt (by simpa [v1, e1]) ?_ | refine xf (by simpa [v1, e1]) ?_ | apply wp_bs | apply wp_b | refine wp_sr ?_ | refine wp_sx ?_ | refine wp_ret' ?_ | refine wp_skip' ?_ | refine wp_exit' ?_)
      simp [if_impl_IsConnected]
    · have h2 : ¬ (P.length : Int) + 1 = 1 := by omega
      have h3 : ¬ P = [] := fun h => h1 (by rw [h]; rfl)
      refine call_of_wp tb_impl_IsConnected rfl ?_
      repeat (first | apply wp_as | apply wp_ss | refine wr (by simp [v1, e1, h1, h2]; with_reducible rfl) ?_ | refine wq (by simp [v1, e1, h1, h2]; with_reducible rfl) ?_ | refine wt (by simpa [v1, e1, h1, h2]) ?_ | refine wf (by simpa [v1, e1, h1, h2]) ?_ | refine xt (by simpa [v1, e1, h1, h2]) ?_ | refine xf (by simpa [v1, e1, h1, h2]) ?_ | apply wp_bs | apply wp_b | refine wp_sr ?_ | refine wp_sx ?_ | refine wp_ret' ?_ | refine wp_skip' ?_ | refine wp_exit' ?_)
      simp [if_impl_IsConnected, h3]
      exact h2

end Go.Idl

namespace Go.Idl

open Go

def bls (l : List Bool) : List (List IV) := l.map fun b => [Bo b]

abbrev OB (l : List Bool) : IV := .own 1 (bls l)

@[simp] theorem bls_len (l : List Bool) : (bls l).length = l.length := by simp [bls]

@[simp] theorem bls_rep (n : Nat) : List.replicate n [IV.sc (Value.bool false)] = bls (List.replicate n false) := by simp [bls]

@[simp] theorem bls_get (l : List Bool) (i : Nat) (h : i < (bls l).length) : (bls l)[i] = [IV.sc (.bool (l[i]'(by simpa [bls] using h)))] := by simp [bls]

@[simp] theorem bls_get? (l : List Bool) (i : Nat) : (bls l)[i]? = l[i]?.map fun b => [IV.sc (.bool b)] := by simp [bls]

@[simp] theorem bls_set (l : List Bool) (i : Nat) (b : Bool) : (bls l).set i [IV.sc (.bool b)] = bls (l.set i b) := by simp [bls, List.map_set]

def mark (l : List Bool) (e : Int × Int) : List Bool := if (l.getD e.1.toNat false || l.getD e.2.toNat false) = true then (l.set e.1.toNat true).set e.2.toNat true else l

def mrks (es : List (Int × Int)) : Nat → List Bool → List Bool
  | 0, l => l
  | m + 1, l => mrks es m (es.foldl mark l)

theorem mark_len (l : List Bool) (e : Int × Int) : (mark l e).length = l.length := by rw [mark]; split <;> simp

theorem foldm_len (es : List (Int × Int)) : ∀ l : List Bool, (es.foldl mark l).length = l.length := by
  induction es with
  | nil => intro l; rfl
  | cons e es ih => intro l; rw [List.foldl_cons, ih, mark_len]

theorem mrks_len (es : List (Int × Int)) : ∀ (m : Nat) (l : List Bool), (mrks es m l).length = l.length
  | 0, _ => rfl
  | m + 1, l => by rw [mrks, mrks_len es m, foldm_len]

/-- The vertices that v is joined to. -/
def cmpS (n : Nat) (es : List (Int × Int)) (v : Nat) : List Int := (rgF n 0).filter fun u => (mrks es n ((List.replicate n false).set v true)).getD u.toNat false

theorem cs_in (n : Nat) (es : List (Int × Int)) (c : Bool) (hes : ∀ e ∈ es, 0 ≤ e.1 ∧ e.1 < n ∧ 0 ≤ e.2 ∧ e.2 < n) (hel : es.length ≤ 1000) (k : Nat) : ∀ (m j : Nat) (l : List Bool) (B : Boxes), j + m = es.length → l.length = n →
    wp tb (.loop ic_spec_component_l12) { T := [(2, .bptr 0 0 0), (5, OB l), (6, I k), (7, I j)], loc := [I n, L2 es c] :: B, M := [] }
      (fun ex st => ex = .exit 2 ∧ ∃ B', st = { T := [(2, .bptr 0 0 0), (5, OB ((es.drop j).foldl mark l)), (6, I k), (7, I es.length), (27, Bo false)], loc := [I n, L2 es c] :: B', M := [] }) := by
  intro m
  induction m with
  | zero =>
    intro j l B hj hl
    have h3 : j = es.length := hj
    subst h3
    refine wp_loop ?_
    repeat (first | apply wp_as | apply wp_ss | refine wr (by simp; with_reducible rfl) ?_ | refine wq (by simp; with_reducible rfl) ?_ | refine wt (by simpa) ?_ | refine wf (by simpa) ?_ | refine xt (by simpa) ?_ | refine xf (by simpa) ?_ | apply wp_bs | apply wp_b | refine wp_sr ?_ | refine wp_sx ?_ | refine wp_ret' ?_ | refine wp_skip' ?_ | refine wp_exit' ?_)
    exact ⟨rfl, _, by simp; rfl⟩
  | succ m ih =>
    intro j l B hj hl
    have hj2 : j < es.length := by omega
    have hd : es.drop j = es[j] :: es.drop (j + 1) := List.drop_eq_getElem_cons hj2
    have hb := hes _ (List.getElem_mem hj2)
    obtain ⟨⟨x, y⟩, hx⟩ : ∃ e, e = es[j] := ⟨_, rfl⟩
    rw [← hx] at hb
    simp only at hb
    obtain ⟨a, rfl⟩ := Int.eq_ofNat_of_zero_le hb.1
    obtain ⟨b, rfl⟩ := Int.eq_ofNat_of_zero_le hb.2.2.1
    have hx2 := hx.symm
    have han : a < n := by omega
    have hbn : b < n := by omega
    have ha : a < l.length := by omega
    have hbl : b < l.length := by omega
    have w1 : IntKind.i64.wrap ((j : Int) + 1) = ((j + 1 : Nat) : Int) := wrapS (by omega)
    have ga : l.getD a false = l[a] := by rw [List.getD_eq_getElem?_getD, List.getElem?_eq_getElem ha]; rfl
    have gb : l.getD b false = l[b] := by rw [List.getD_eq_getElem?_getD, List.getElem?_eq_getElem hbl]; rfl
    have hn := ih (j + 1) (mark l ((a : Int), (b : Int))) (B ++ [[I a, I b]]) (by omega) (by rw [mark_len, hl])
    have hr : mark l ((a : Int), (b : Int)) = if (l[a] || l[b]) = true then (l.set a true).set b true else l := by
      simp only [mark, Int.toNat_natCast, ga, gb]
    rw [hd, ← hx, List.foldl_cons]
    rw [hr] at hn ⊢
    cases k1 : l[a] with
    | true =>
      simp only [k1, Bool.true_or, if_true] at hn ⊢
      refine wp_loop ?_
      repeat (first | apply wp_as | apply wp_ss | refine wr (by simp [hj2, hx2, ha, hbl, hl, han, hbn, k1, w1]; with_reducible rfl) ?_ | refine wq (by simp [hj2, hx2, ha, hbl, hl, han, hbn, k1, w1]; with_reducible rfl) ?_ | refine wt (by simpa [hj2, hx2, ha, hbl, hl, han, hbn, k1, w1]) ?_ | refine wf (by simpa [hj2, hx2, ha, hbl, hl, han, hbn, k1, w1]) ?_ | refine xt (by simpa [hj2, hx2, ha, hbl, hl, han, hbn, k1, w1]) ?_ | refine xf (by simpa [hj2, hx2, ha, hbl, hl, han, hbn, k1, w1]) ?_ | apply wp_bs | apply wp_b | refine wp_sr ?_ | refine wp_sx ?_ | refine wp_ret' ?_ | refine wp_skip' ?_ | refine wp_exit' ?_)
      exact hn
    | false =>
      cases k2 : l[b] with
      | true =>
        simp only [k1, k2, Bool.or_true, if_true] at hn ⊢
        refine wp_loop ?_
        repeat (first | apply wp_as | apply wp_ss | refine wr (by simp [hj2, hx2, ha, hbl, hl, han, hbn, k1, k2, w1]; with_reducible rfl) ?_ | refine wq (by simp [hj2, hx2, ha, hbl, hl, han, hbn, k1, k2, w1]; with_reducible rfl) ?_ | refine wt (by simpa [hj2, hx2, ha, hbl, hl, han, hbn, k1, k2, w1]) ?_ | refine wf (by simpa [hj2, hx2, ha, hbl, hl, han, hbn, k1, k2, w1]) ?_ | refine xt (by simpa [hj2, hx2, ha, hbl, hl, han, hbn, k1, k2, w1]) ?_ | refine xf (by simpa [hj2, hx2, ha, hbl, hl, han, hbn, k1, k2, w1]) ?_ | apply wp_bs | apply wp_b | refine wp_sr ?_ | refine wp_sx ?_ | refine wp_ret' ?_ | refine wp_skip' ?_ | refine wp_exit' ?_)
        exact hn
      | false =>
        simp only [k1, k2, Bool.or_false, Bool.false_eq_true, if_false] at hn ⊢
        refine wp_loop ?_
        repeat (first | apply wp_as | apply wp_ss | refine wr (by simp [hj2, hx2, ha, hbl, hl, han, hbn, k1, k2, w1]; with_reducible rfl) ?_ | refine wq (by simp [hj2, hx2, ha, hbl, hl, han, hbn, k1, k2, w1]; with_reducible rfl) ?_ | refine wt (by simpa [hj2, hx2, ha, hbl, hl, han, hbn, k1, k2, w1]) ?_ | refine wf (by simpa [hj2, hx2, ha, hbl, hl, han, hbn, k1, k2, w1]) ?_ | refine xt (by simpa [hj2, hx2, ha, hbl, hl, han, hbn, k1, k2, w1]) ?_ | refine xf (by simpa [hj2, hx2, ha, hbl, hl, han, hbn, k1, k2, w1]) ?_ | apply wp_bs | apply wp_b | refine wp_sr ?_ | refine wp_sx ?_ | refine wp_ret' ?_ | refine wp_skip' ?_ | refine wp_exit' ?_)
        exact hn

theorem cs_out (n : Nat) (es : List (Int × Int)) (c : Bool) (hes : ∀ e ∈ es, 0 ≤ e.1 ∧ e.1 < n ∧ 0 ≤ e.2 ∧ e.2 < n) (hel : es.length ≤ 1000) (hn7 : n ≤ 7) : ∀ (m k : Nat) (l : List Bool) (B : Boxes), k + m = n → l.length = n →
    wp tb (.loop ic_spec_component_l14) { T := [(2, .bptr 0 0 0), (5, OB l), (6, I k)], loc := [I n, L2 es c] :: B, M := [] }
      (fun ex st => ex = .exit 0 ∧ ∃ B', st = { T := [(2, .bptr 0 0 0), (5, OB (mrks es m l)), (6, I n), (20, Bo false)], loc := [I n, L2 es c] :: B', M := [] }) := by
  intro m
  induction m with
  | zero =>
    intro k l B hk hl
    have h3 : k = n := hk
    subst h3
    refine wp_loop ?_
    repeat (first | apply wp_as | apply wp_ss | refine wr (by simp; with_reducible rfl) ?_ | refine wq (by simp; with_reducible rfl) ?_ | refine wt (by simpa) ?_ | refine wf (by simpa) ?_ | refine xt (by simpa) ?_ | refine xf (by simpa) ?_ | apply wp_bs | apply wp_b | refine wp_sr ?_ | refine wp_sx ?_ | refine wp_ret' ?_ | refine wp_skip' ?_ | refine wp_exit' ?_)
    exact ⟨rfl, _, rfl⟩
  | succ m ih =>
    intro k l B hk hl
    have hk2 : k < n := by omega
    have w1 : IntKind.i64.wrap ((k : Int) + 1) = ((k + 1 : Nat) : Int) := wrapS (by omega)
    have inner := cs_in n es c hes hel k es.length 0 l B (by omega) hl
    rw [show ((0 : Nat) : Int) = 0 from rfl] at inner
    refine wp_loop ?_
    repeat (first | apply wp_as | apply wp_ss | refine wr (by simp [hk2]; with_reducible rfl) ?_ | refine wq (by simp [hk2]; with_reducible rfl) ?_ | refine wt (by simpa [hk2]) ?_ | refine wf (by simpa [hk2]) ?_ | refine xt (by simpa [hk2]) ?_ | refine xf (by simpa [hk2]) ?_ | apply wp_bs | apply wp_b | refine wp_sr ?_ | refine wp_sx ?_ | refine wp_ret' ?_ | refine wp_skip' ?_ | refine wp_exit' ?_)
    refine wp_imp inner ?_
    rintro ex st ⟨rfl, B', rfl⟩
    simp only [if_true, List.drop_zero]
    repeat (first | apply wp_as | apply wp_ss | refine wr (by simp [w1]; with_reducible rfl) ?_ | refine wq (by simp [w1]; with_reducible rfl) ?_ | refine wt (by simpa [w1]) ?_ | refine wf (by simpa [w1]) ?_ | refine xt (by simpa [w1]) ?_ | refine xf (by simpa [w1]) ?_ | apply wp_bs | apply wp_b | refine wp_sr ?_ | refine wp_sx ?_ | refine wp_ret' ?_ | refine wp_skip' ?_ | refine wp_exit' ?_)
    exact ih (k + 1) (es.foldl mark l) B' (by omega) (by rw [foldm_len, hl])

theorem cs_last (n : Nat) (hn7 : n ≤ 7) (es : List (Int × Int)) (c : Bool) (l : List Bool) (hl : l.length = n) (B : Boxes) : ∀ (m i : Nat) (acc : List Int), i + m = n → acc.length ≤ i →
    wp tb (.loop ic_spec_component_l21) { T := [(2, .bptr 0 0 0), (5, OB l), (9, O acc), (10, I i)], loc := [I n, L2 es c] :: B, M := [] }
      (fun ex st => ex = .exit 4 ∧ st = { T := [(2, .bptr 0 0 0), (5, OB l), (9, O (acc ++ (rgF n i).filter fun u => l.getD u.toNat false)), (10, I n), (59, Bo false)], loc := [I n, L2 es c] :: B, M := [] }) := by
  intro m
  induction m with
  | zero =>
    intro i acc hi ha
    have h3 : i = n := hi
    subst h3
    rw [rgF_end, List.filter_nil, List.append_nil]
    refine wp_loop ?_
    repeat (first | apply wp_as | apply wp_ss | refine wr (by simp; with_reducible rfl) ?_ | refine wq (by simp; with_reducible rfl) ?_ | refine wt (by simpa) ?_ | refine wf (by simpa) ?_ | refine xt (by simpa) ?_ | refine xf (by simpa) ?_ | apply wp_bs | apply wp_b | refine wp_sr ?_ | refine wp_sx ?_ | refine wp_ret' ?_ | refine wp_skip' ?_ | refine wp_exit' ?_)
    exact ⟨rfl, rfl⟩
  | succ m ih =>
    intro i acc hi ha
    have hi2 : i < n := by omega
    have hil : i < l.length := by omega
    have w1 : IntKind.i64.wrap ((i : Int) + 1) = ((i + 1 : Nat) : Int) := wrapS (by omega)
    have gi : l.getD i false = l[i] := by rw [List.getD_eq_getElem?_getD, List.getElem?_eq_getElem hil]; rfl
    rw [rgF_cons hi2]
    cases hq : l[i] with
    | true =>
      rw [List.filter_cons_of_pos (by rw [Int.toNat_natCast, gi, hq])]
      have hn2 := ih (i + 1) (acc ++ [(i : Int)]) (by omega) (by simp; omega)
      rw [List.append_assoc, List.cons_append, List.nil_append] at hn2
      have hl1 : acc.length + 1 ≤ 274877906944 := by omega
      have hT : ∀ x : Int, List.take (acc.length + 1) (acc ++ [x]) = acc ++ [x] := fun x => List.take_of_length_le (by simp)
      have hT2 : List.take acc.length acc = acc := List.take_of_length_le (Nat.le_refl _)
      refine wp_loop ?_
      repeat (first | apply wp_as | apply wp_ss | refine wr (by simp [hi2, hil, hl, hq, w1, hl1, hT, hT2]; with_reducible rfl) ?_ | refine wq (by simp [hi2, hil, hl, hq, w1, hl1, hT, hT2]; with_reducible rfl) ?_ | refine wt (by simpa [hi2, hil, hl, hq, w1, hl1, hT, hT2]) ?_ | refine wf (by simpa [hi2, hil, hl, hq, w1, hl1, hT, hT2]) ?_ | refine xt (by simpa [hi2, hil, hl, hq, w1, hl1, hT, hT2]) ?_ | refine xf (by simpa [hi2, hil, hl, hq, w1, hl1, hT, hT2]) ?_ | apply wp_bs | apply wp_b | refine wp_sr ?_ | refine wp_sx ?_ | refine wp_ret' ?_ | refine wp_skip' ?_ | refine wp_exit' ?_)
      exact hn2
    | false =>
      rw [List.filter_cons_of_neg (by rw [Int.toNat_natCast, gi, hq]; simp)]
      have hn2 := ih (i + 1) acc (by omega) (by omega)
      refine wp_loop ?_
      repeat (first | apply wp_as | apply wp_ss | refine wr (by simp [hi2, hil, hl, hq, w1]; with_reducible rfl) ?_ | refine wq (by simp [hi2, hil, hl, hq, w1]; with_reducible rfl) ?_ | refine wt (by simpa [hi2, hil, hl, hq, w1]) ?_ | refine wf (by simpa [hi2, hil, hl, hq, w1]) ?_ | refine xt (by simpa [hi2, hil, hl, hq, w1]) ?_ | refine xf (by simpa [hi2, hil, hl, hq, w1]) ?_ | apply wp_bs | apply wp_b | refine wp_sr ?_ | refine wp_sx ?_ | refine wp_ret' ?_ | refine wp_skip' ?_ | refine wp_exit' ?_)
      exact hn2

theorem ev_component (n : Nat) (hn7 : n ≤ 7) (es : List (Int × Int)) (c : Bool) (hes : ∀ e ∈ es, 0 ≤ e.1 ∧ e.1 < n ∧ 0 ≤ e.2 ∧ e.2 < n) (hel : es.length ≤ 1000) (v : Nat) (hv : v < n) :
    Ev tb l_spec_component [] [Gr n es c, I v] [] ⟨O (cmpS n es v), [], [], []⟩ := by
  have hl1 : n ≤ 274877906944 := by omega
  have h1 := fun B => cs_out n es c hes hel hn7 n 0 ((List.replicate n false).set v true) B (by omega) (by simp)
  have hml : (mrks es n ((List.replicate n false).set v true)).length = n := by rw [mrks_len]; simp
  have h2 := fun B => cs_last n hn7 es c (mrks es n ((List.replicate n false).set v true)) hml B n 0 [] (by omega) (by simp)
  rw [cmpS]
  generalize mrks es n ((List.replicate n false).set v true) = R at *
  simp only [List.nil_append, show ((0 : Nat) : Int) = 0 from rfl] at h1 h2
  refine call_of_wp tb_spec_component rfl ?_
  repeat (first | apply wp_as | apply wp_ss | refine wr (by simp [hl1, hv]; with_reducible rfl) ?_ | refine wq (by simp [hl1, hv]; with_reducible rfl) ?_ | refine wt (by simpa [hl1, hv]) ?_ | refine wf (by simpa [hl1, hv]) ?_ | refine xt (by simpa [hl1, hv]) ?_ | refine xf (by simpa [hl1, hv]) ?_ | apply wp_bs | apply wp_b | refine wp_sr ?_ | refine wp_sx ?_ | refine wp_ret' ?_ | refine wp_skip' ?_ | refine wp_exit' ?_)
  refine wp_imp (h1 []) ?_
  rintro ex st ⟨rfl, B', rfl⟩
  simp only [if_true]
  repeat (first | apply wp_as | apply wp_ss | refine wr (by simp; with_reducible rfl) ?_ | refine wq (by simp; with_reducible rfl) ?_ | refine wt (by simpa) ?_ | refine wf (by simpa) ?_ | refine xt (by simpa) ?_ | refine xf (by simpa) ?_ | apply wp_bs | apply wp_b | refine wp_sr ?_ | refine wp_sx ?_ | refine wp_ret' ?_ | refine wp_skip' ?_ | refine wp_exit' ?_)
  refine wp_imp (h2 B') ?_
  rintro ex st ⟨rfl, rfl⟩
  simp only [if_true]
  repeat (first | apply wp_as | apply wp_ss | refine wr (by simp; with_reducible rfl) ?_ | refine wq (by simp; with_reducible rfl) ?_ | refine wt (by simpa) ?_ | refine wf (by simpa) ?_ | refine xt (by simpa) ?_ | refine xf (by simpa) ?_ | apply wp_bs | apply wp_b | refine wp_sr ?_ | refine wp_sx ?_ | refine wp_ret' ?_ | refine wp_skip' ?_ | refine wp_exit' ?_)
  simp [if_spec_component]

end Go.Idl

namespace Go.Idl

open Go

def posAll (d : List Int) : Bool := d.all fun x => decide (0 < x)

/-- Degrees of a connected graph. -/
def conn (d : List Int) : Bool := graphic d && (decide (0 < d.length) && ((decide (d.length = 1) || posAll d) && decide (2 * (d.length : Int) - 2 ≤ d.sum)))

theorem graphic_valid {d : List Int} (h : graphic d = true) : valid d = true := by simp only [graphic, Bool.and_eq_true] at h; exact h.1.1

theorem min_pos {x : Int} {r : List Int} : (decide (0 < least1 x r)) = posAll (x :: r) := by
  rw [Bool.eq_iff_iff, decide_eq_true_eq]
  have := least1_ge r x 1
  simp only [posAll, List.all_eq_true, decide_eq_true_eq, List.mem_cons]
  constructor
  · intro h y hy
    have h2 := this.1 (by omega)
    rcases hy with rfl | hy
    · omega
    · have := h2.2 y hy; omega
  · intro h
    have := this.2 ⟨by have := h x (.inl rfl); omega, fun y hy => by have := h y (.inr hy); omega⟩
    omega

theorem ev_IsConnectable (d : List Int) (c : Bool) (hl : d.length ≤ 1000000) : Ev tb l_impl_IsConnectable [] [L d c] [] ⟨Bo (conn d), [], [], []⟩ := by
  have e1 := ev_lim (ev_IsGraphic d c hl)
  unfold conn
  cases hg : graphic d with
  | false =>
    refine call_of_wp tb_impl_IsConnectable rfl ?_
    repeat (first | apply wp_as | apply wp_ss | refine wr (by simp [e1, hg]; with_reducible rfl) ?_ | refine wq (by simp [e1, hg]; with_reducible rfl) ?_ | refine wt (by simpa [e1, hg]) ?_ | refine wf (by simpa [e1, hg]) ?_ | refine xt (by simpa [e1, hg]) ?_ | refine xf (by simpa [e1, hg]) ?_ | apply wp_bs | apply wp_b | refine wp_sr ?_ | refine wp_sx ?_ | refine wp_ret' ?_ | refine wp_skip' ?_ | refine wp_exit' ?_)
    simp [if_impl_IsConnectable]
  | true =>
  have hf := valid_few (graphic_valid hg)
  have hsm := hf.sum
  have e2 := ev_lim (ev_sum d c hf.small)
  have h7 := hf.1
  cases d with
  | nil =>
    refine call_of_wp tb_impl_IsConnectable rfl ?_
    repeat (first | apply wp_as | apply wp_ss | refine wr (by simp [e1, hg]; with_reducible rfl) ?_ | refine wq (by simp [e1, hg]; with_reducible rfl) ?_ | refine wt (by simpa [e1, hg]) ?_ | refine wf (by simpa [e1, hg]) ?_ | refine xt (by simpa [e1, hg]) ?_ | refine xf (by simpa [e1, hg]) ?_ | apply wp_bs | apply wp_b | refine wp_sr ?_ | refine wp_sx ?_ | refine wp_ret' ?_ | refine wp_skip' ?_ | refine wp_exit' ?_)
    simp [if_impl_IsConnectable]
  | cons x r =>
  have e3 := ev_lim (ev_Min x r c (by simp at h7; omega))
  have hmp := min_pos (x := x) (r := r)
  have w1 : IntKind.i64.wrap (2 * ((r.length : Int) + 1)) = 2 * ((r.length : Int) + 1) := wrap64 (by omega) (by simp at h7; omega)
  have w2 : IntKind.i64.wrap (2 * ((r.length : Int) + 1) - 2) = 2 * ((r.length : Int) + 1) - 2 := wrap64 (by omega) (by simp at h7; omega)
  by_cases h1 : r = []
  · subst h1
    refine call_of_wp tb_impl_IsConnectable rfl ?_
    repeat (first | apply wp_as | apply wp_ss | refine wr (by simp [e1, e2, hg, show IntKind.i64.wrap 2 = 2 from rfl, show IntKind.i64.wrap 0 = 0 from rfl]; with_reducible rfl) ?_ | refine wq (by simp [e1, e2, hg, show IntKind.i64.wrap 2 = 2 from rfl, show IntKind.i64.wrap 0 = 0 from rfl]; with_reducible rfl) ?_ | refine wt (by simpa [e1, e2, hg, show IntKind.i64.wrap 2 = 2 from rfl, show IntKind.i64.wrap 0 = 0 from rfl]) ?_ | refine wf (by simpa [e1, e2, hg, show IntKind.i64.wrap 2 = 2 from rfl, show IntKind.i64.wrap 0 = 0 from rfl]) ?_ | refine xt (by simpa [e1, e2, hg, show IntKind.i64.wrap 2 = 2 from rfl, show IntKind.i64.wrap 0 = 0 from rfl]) ?_ | refine xf (by simpa [e1, e2, hg, show IntKind.i64.wrap 2 = 2 from rfl, show IntKind.i64.wrap 0 = 0 from rfl]) ?_ | apply wp_bs | apply wp_b | refine wp_sr ?_ | refine wp_sx ?_ | refine wp_ret' ?_ | refine wp_skip' ?_ | refine wp_exit' ?_)
    simp [if_impl_IsConnectable]
  · have h2 : ¬ r.length = 0 := fun h => h1 (List.length_eq_zero_iff.1 h)
    have h3 : ¬ (r.length : Int) = 0 := by omega
    have h4 : ¬ (r.length : Int) + 1 = 1 := by omega
    have h5 : (0 : Int) < (r.length : Int) + 1 := by omega
    rw [show posAll (x :: r) = decide (0 < least1 x r) from hmp.symm]
    by_cases hp : 0 < least1 x r
    · refine call_of_wp tb_impl_IsConnectable rfl ?_
      repeat (first | apply wp_as | apply wp_ss | refine wr (by simp [e1, e2, e3, hg, h1, h2, h3, h4, h5, hp, w1, w2]; with_reducible rfl) ?_ | refine wq (by simp [e1, e2, e3, hg, h1, h2, h3, h4, h5, hp, w1, w2]; with_reducible rfl) ?_ | refine wt (by simpa [e1, e2, e3, hg, h1, h2, h3, h4, h5, hp, w1, w2]) ?_ | refine wf (by simpa [e1, e2, e3, hg, h1, h2, h3, h4, h5, hp, w1, w2]) ?_ | refine xt (by simpa [e1, e2, e3, hg, h1, h2, h3, h4, h5, hp, w1, w2]) ?_ | refine xf (by simpa [e1, e2, e3, hg, h1, h2, h3, h4, h5, hp, w1, w2]) ?_ | apply wp_bs | apply wp_b | refine wp_sr ?_ | refine wp_sx ?_ | refine wp_ret' ?_ | refine wp_skip' ?_ | refine wp_exit' ?_)
      simp [if_impl_IsConnectable, h1, hp]
      rfl
    · refine call_of_wp tb_impl_IsConnectable rfl ?_
      repeat (first | apply wp_as | apply wp_ss | refine wr (by simp [e1, e2, e3, hg, h1, h2, h3, h4, h5, hp, w1, w2]; with_reducible rfl) ?_ | refine wq (by simp [e1, e2, e3, hg, h1, h2, h3, h4, h5, hp, w1, w2]; with_reducible rfl) ?_ | refine wt (by simpa [e1, e2, e3, hg, h1, h2, h3, h4, h5, hp, w1, w2]) ?_ | refine wf (by simpa [e1, e2, e3, hg, h1, h2, h3, h4, h5, hp, w1, w2]) ?_ | refine xt (by simpa [e1, e2, e3, hg, h1, h2, h3, h4, h5, hp, w1, w2]) ?_ | refine xf (by simpa [e1, e2, e3, hg, h1, h2, h3, h4, h5, hp, w1, w2]) ?_ | apply wp_bs | apply wp_b | refine wp_sr ?_ | refine wp_sx ?_ | refine wp_ret' ?_ | refine wp_skip' ?_ | refine wp_exit' ?_)
      simp [if_impl_IsConnectable, h1, hp]

end Go.Idl

namespace Go.Idl

open Go

/-- The first number of the component of v is v. -/
def hdV (n : Nat) (es : List (Int × Int)) (v : Int) : Bool := decide ((cmpS n es v.toNat).getD 0 0 = v)

def cmpsS (n : Nat) (es : List (Int × Int)) (i : Nat) : List (List Int) := ((rgF n i).filter (hdV n es)).map fun v => cmpS n es v.toNat

theorem mark_keep {l : List Bool} {e : Int × Int} {v : Nat} (h : l.getD v false = true) : (mark l e).getD v false = true := by
  have hv : v < l.length := by
    rw [List.getD_eq_getElem?_getD] at h
    by_cases hv : v < l.length
    · exact hv
    · rw [List.getElem?_eq_none (by omega)] at h; cases h
  rw [mark]
  split
  · rw [List.getD_eq_getElem?_getD] at h ⊢
    rw [List.getElem?_set, List.getElem?_set]
    split
    · split
      · rfl
      · rename_i h1 h2; simp at h2; omega
    · split
      · split
        · rfl
        · omega
      · exact h
  · exact h

theorem fold_keep {v : Nat} : ∀ (es : List (Int × Int)) {l : List Bool}, l.getD v false = true → (es.foldl mark l).getD v false = true
  | [], _, h => h
  | e :: es, _, h => fold_keep es (mark_keep h)

theorem mrks_keep {es : List (Int × Int)} {v : Nat} : ∀ (m : Nat) {l : List Bool}, l.getD v false = true → (mrks es m l).getD v false = true
  | 0, _, h => h
  | m + 1, _, h => mrks_keep m (fold_keep es h)

theorem mem_cmpS {n : Nat} {es : List (Int × Int)} {v : Nat} (hv : v < n) : (v : Int) ∈ cmpS n es v := by
  refine List.mem_filter.2 ⟨mem_rgF.2 ⟨by omega, by omega⟩, ?_⟩
  refine mrks_keep n ?_
  rw [Int.toNat_natCast, List.getD_eq_getElem?_getD, List.getElem?_set_self (by simpa using hv)]; rfl

theorem cp_loop (n : Nat) (hn7 : n ≤ 7) (es : List (Int × Int)) (c : Bool) (hes : ∀ e ∈ es, 0 ≤ e.1 ∧ e.1 < n ∧ 0 ≤ e.2 ∧ e.2 < n) (hel : es.length ≤ 1000) : ∀ (m i : Nat) (acc : List (List Int)), i + m = n → acc.length ≤ i →
    wp tb (.loop ic_spec_components_l8) { T := [(1, .bptr 0 0 0), (3, OT acc), (4, I i)], loc := [[I n, L2 es c]], M := [] }
      (fun ex st => ex = .exit 0 ∧ st = { T := [(1, .bptr 0 0 0), (3, OT (acc ++ cmpsS n es i)), (4, I n), (10, Bo false)], loc := [[I n, L2 es c]], M := [] }) := by
  intro m
  induction m with
  | zero =>
    intro i acc hi ha
    have h3 : i = n := hi
    subst h3
    rw [cmpsS, rgF_end, List.filter_nil, List.map_nil, List.append_nil]
    refine wp_loop ?_
    repeat (first | apply wp_as | apply wp_ss | refine wr (by simp; with_reducible rfl) ?_ | refine wq (by simp; with_reducible rfl) ?_ | refine wt (by simpa) ?_ | refine wf (by simpa) ?_ | refine xt (by simpa) ?_ | refine xf (by simpa) ?_ | apply wp_bs | apply wp_b | refine wp_sr ?_ | refine wp_sx ?_ | refine wp_ret' ?_ | refine wp_skip' ?_ | refine wp_exit' ?_)
    exact ⟨rfl, rfl⟩
  | succ m ih =>
    intro i acc hi ha
    have hi2 : i < n := by omega
    have w1 : IntKind.i64.wrap ((i : Int) + 1) = ((i + 1 : Nat) : Int) := wrapS (by omega)
    have e1 := fun c => ev_lim (ev_component n hn7 es c hes hel i hi2)
    have hm := mem_cmpS (es := es) hi2
    have hh : hdV n es (i : Int) = decide ((cmpS n es i).getD 0 0 = (i : Int)) := by rw [hdV, Int.toNat_natCast]
    rw [cmpsS, rgF_cons hi2]
    have hn0 := ih (i + 1) acc (by omega) (by omega)
    have hn1 := ih (i + 1) (acc ++ [cmpS n es i]) (by omega) (by simp; omega)
    rw [List.append_assoc, List.cons_append, List.nil_append] at hn1
    have hl1 : acc.length + 1 ≤ 274877906944 := by omega
    have hT : ∀ x : List Int, List.take (acc.length + 1) (acc ++ [x]) = acc ++ [x] := fun x => List.take_of_length_le (by simp)
    have hT2 : List.take acc.length acc = acc := List.take_of_length_le (Nat.le_refl _)
    by_cases hq : (cmpS n es i).getD 0 0 = (i : Int)
    · rw [List.filter_cons_of_pos (by rw [hh]; exact decide_eq_true hq), List.map_cons, Int.toNat_natCast]
      rw [cmpsS] at hn1
      generalize cmpS n es i = C at *
      cases C with
      | nil => cases hm
      | cons y ys =>
        have hq : y = (i : Int) := hq
        subst hq
        refine wp_loop ?_
        repeat (first | apply wp_as | apply wp_ss | refine wr (by simp [hi2, e1, w1, hl1, hT, hT2]; with_reducible rfl) ?_ | refine wq (by simp [hi2, e1, w1, hl1, hT, hT2]; with_reducible rfl) ?_ | refine wt (by simpa [hi2, e1, w1, hl1, hT, hT2]) ?_ | refine wf (by simpa [hi2, e1, w1, hl1, hT, hT2]) ?_ | refine xt (by simpa [hi2, e1, w1, hl1, hT, hT2]) ?_ | refine xf (by simpa [hi2, e1, w1, hl1, hT, hT2]) ?_ | apply wp_bs | apply wp_b | refine wp_sr ?_ | refine wp_sx ?_ | refine wp_ret' ?_ | refine wp_skip' ?_ | refine wp_exit' ?_)
        exact hn1
    · rw [List.filter_cons_of_neg (by rw [hh, decide_eq_true_eq]; exact hq)]
      rw [cmpsS] at hn0
      generalize cmpS n es i = C at *
      cases C with
      | nil => cases hm
      | cons y ys =>
        have hq : ¬ y = (i : Int) := hq
        refine wp_loop ?_
        repeat (first | apply wp_as | apply wp_ss | refine wr (by simp [hi2, e1, w1, hq]; with_reducible rfl) ?_ | refine wq (by simp [hi2, e1, w1, hq]; with_reducible rfl) ?_ | refine wt (by simpa [hi2, e1, w1, hq]) ?_ | refine wf (by simpa [hi2, e1, w1, hq]) ?_ | refine xt (by simpa [hi2, e1, w1, hq]) ?_ | refine xf (by simpa [hi2, e1, w1, hq]) ?_ | apply wp_bs | apply wp_b | refine wp_sr ?_ | refine wp_sx ?_ | refine wp_ret' ?_ | refine wp_skip' ?_ | refine wp_exit' ?_)
        exact hn0

theorem ev_spec_components (n : Nat) (hn7 : n ≤ 7) (es : List (Int × Int)) (c : Bool) (hes : ∀ e ∈ es, 0 ≤ e.1 ∧ e.1 < n ∧ 0 ≤ e.2 ∧ e.2 < n) (hel : es.length ≤ 1000) :
    Ev tb l_spec_components [] [Gr n es c] [] ⟨OT (cmpsS n es 0), [], [], []⟩ := by
  have loop := cp_loop n hn7 es c hes hel n 0 [] (by omega) (by simp)
  rw [List.nil_append, show ((0 : Nat) : Int) = 0 from rfl] at loop
  simp only [OT, oab_nil] at loop
  refine call_of_wp tb_spec_components rfl ?_
  repeat (first | apply wp_as | apply wp_ss | refine wr (by simp; with_reducible rfl) ?_ | refine wq (by simp; with_reducible rfl) ?_ | refine wt (by simpa) ?_ | refine wf (by simpa) ?_ | refine xt (by simpa) ?_ | refine xf (by simpa) ?_ | apply wp_bs | apply wp_b | refine wp_sr ?_ | refine wp_sx ?_ | refine wp_ret' ?_ | refine wp_skip' ?_ | refine wp_exit' ?_)
  refine wp_imp loop ?_
  rintro ex st ⟨rfl, rfl⟩
  simp only [if_true]
  repeat (first | apply wp_as | apply wp_ss | refine wr (by simp; with_reducible rfl) ?_ | refine wq (by simp; with_reducible rfl) ?_ | refine wt (by simpa) ?_ | refine wf (by simpa) ?_ | refine xt (by simpa) ?_ | refine xf (by simpa) ?_ | apply wp_bs | apply wp_b | refine wp_sr ?_ | refine wp_sx ?_ | refine wp_ret' ?_ | refine wp_skip' ?_ | refine wp_exit' ?_)
  simp [if_spec_components]

theorem ev_spec_IsConnected (n : Nat) (es : List (Int × Int)) (c : Bool) (hel : es.length ≤ 1000) (hv : vGraph n es = true) :
    Ev tb l_spec_IsConnected [] [Gr n es c] [] ⟨Bo (decide ((cmpsS n es 0).length = 1)), [], [], []⟩ := by
  have hes : ∀ e ∈ es, 0 ≤ e.1 ∧ e.1 < n ∧ 0 ≤ e.2 ∧ e.2 < n := fun e he => by have := mem_prs.1 ((vG_iff.1 hv).2.1 e he); omega
  have e0 := fun c => ev_lim (ev_validGraph n es c (by omega))
  rw [hv] at e0
  have e1 := fun c => ev_lim (ev_spec_components n (vG_iff.1 hv).2.2 es c hes hel)
  generalize cmpsS n es 0 = P at *
  by_cases h1 : P.length = 1
  · refine call_of_wp tb_spec_IsConnected rfl ?_
    repeat (first | apply wp_as | apply wp_ss | refine wr (by simp [e0, e1, h1]; with_reducible rfl) ?_ | refine wq (by simp [e0, e1, h1]; with_reducible rfl) ?_ | refine wt (by simpa [e0, e1, h1]) ?_ | refine wf (by simpa [e0, e1, h1]) ?_ | refine xt (by simpa [e0, e1, h1]) ?_ | refine xf (by simpa [e0, e1, h1]) ?_ | apply wp_bs | apply wp_b | refine wp_sr ?_ | refine wp_sx ?_ | refine wp_ret' ?_ | refine wp_skip' ?_ | refine wp_exit' ?_)
    simp [if_spec_IsConnected, h1]
  · have h2 : ¬ (P.length : Int) = 1 := by omega
    refine call_of_wp tb_spec_IsConnected rfl ?_
    repeat (first | apply wp_as | apply wp_ss | refine wr (by simp [e0, e1, h1, h2]; with_reducible rfl) ?_ | refine wq (by simp [e0, e1, h1, h2]; with_reducible rfl) ?_ | refine wt (by simpa [e0, e1, h1, h2]) ?_ | refine wf (by simpa [e0, e1, h1, h2]) ?_ | refine xt (by simpa [e0, e1, h1, h2]) ?_ | refine xf (by simpa [e0, e1, h1, h2]) ?_ | apply wp_bs | apply wp_b | refine wp_sr ?_ | refine wp_sx ?_ | refine wp_ret' ?_ | refine wp_skip' ?_ | refine wp_exit' ?_)
    simp [if_spec_IsConnected, h1]
    exact h2

theorem ev_spec_IsConnected_no (n : Int) (es : List (Int × Int)) (c : Bool) (hel : es.length ≤ 1000) (hv : vGraph n es = false) :
    Ev tb l_spec_IsConnected [] [Gr n es c] [] ⟨Bo false, [], [], []⟩ := by
  have e0 := ev_lim (ev_validGraph n es c (by omega))
  rw [hv] at e0
  refine call_of_wp tb_spec_IsConnected rfl ?_
  repeat (first | apply wp_as | apply wp_ss | refine wr (by simp [e0]; with_reducible rfl) ?_ | refine wq (by simp [e0]; with_reducible rfl) ?_ | refine wt (by simpa [e0]) ?_ | refine wf (by simpa [e0]) ?_ | refine xt (by simpa [e0]) ?_ | refine xf (by simpa [e0]) ?_ | apply wp_bs | apply wp_b | refine wp_sr ?_ | refine wp_sx ?_ | refine wp_ret' ?_ | refine wp_skip' ?_ | refine wp_exit' ?_)
  simp [if_spec_IsConnected]

theorem ev_IsConnected_no (n : Int) (es : List (Int × Int)) (c : Bool) (hf : Fit es) (hel : es.length ≤ 1000) (hv : vGraph n es = false) :
    Ev tb l_impl_IsConnected [] [Gr n es c] [] ⟨Bo false, [], [], []⟩ := by
  have e0 := ev_lim (ev_ValidGraph n es c hf (by omega))
  rw [hv] at e0
  refine call_of_wp tb_impl_IsConnected rfl ?_
  repeat (first | apply wp_as | apply wp_ss | refine wr (by simp [e0]; with_reducible rfl) ?_ | refine wq (by simp [e0]; with_reducible rfl) ?_ | refine wt (by simpa [e0]) ?_ | refine wf (by simpa [e0]) ?_ | refine xt (by simpa [e0]) ?_ | refine xf (by simpa [e0]) ?_ | apply wp_bs | apply wp_b | refine wp_sr ?_ | refine wp_sx ?_ | refine wp_ret' ?_ | refine wp_skip' ?_ | refine wp_exit' ?_)
  simp [if_impl_IsConnected]

/-- A graph of no vertex. -/
theorem ev_IsConnected_0 (es : List (Int × Int)) (c : Bool) (v1 : limF tb l_impl_ValidGraph [] [Gr 0 es c] [] = some ⟨Bo true, [], [], []⟩) : Ev tb l_impl_IsConnected [] [Gr 0 es c] [] ⟨Bo false, [], [], []⟩ := by
  have e1 : limF tb l_impl_indices [] [I 0, I (-1)] [] = some ⟨Z, [], [], []⟩ := ev_lim (ev_indices 0 (-1) (by omega))
  have e2 : limF tb l_impl_Graph_roots [] [Gr 0 es c] [] = some ⟨Z, [], [], []⟩ := by
    refine ev_lim ?_
    refine call_of_wp tb_impl_Graph_roots rfl ?_
    repeat (first | apply wp_as | apply wp_ss | refine wr (by simp [e1]; with_reducible rfl) ?_ | refine wq (by simp [e1]; with_reducible rfl) ?_ | refine wt (by simpa [e1]) ?_ | refine wf (by simpa [e1]) ?_ | refine xt (by simpa [e1]) ?_ | refine xf (by simpa [e1]) ?_ | apply wp_bs | apply wp_b | refine wp_sr ?_ | refine wp_sx ?_ | refine wp_ret' ?_ | refine wp_skip' ?_ | refine wp_exit' ?_)
    refine wp_loop ?_
    repeat (first | apply wp_as | apply wp_ss | refine wr (by simp; with_reducible rfl) ?_ | refine wq (by simp; with_reducible rfl) ?_ | refine wt (by simpa) ?_ | refine wf (by simpa) ?_ | refine xt (by simpa) ?_ | refine xf (by simpa) ?_ | apply wp_bs | apply wp_b | refine wp_sr ?_ | refine wp_sx ?_ | refine wp_ret' ?_ | refine wp_skip' ?_ | refine wp_exit' ?_)
    simp [if_impl_Graph_roots]
  have e3 := ev_lim (ev_ClipT [])
  simp only [nlT] at e3
  have e4 : limF tb l_impl_Graph_components [] [Gr 0 es c] [] = some ⟨Z, [], [], []⟩ := by
    refine ev_lim ?_
    refine call_of_wp tb_impl_Graph_components rfl ?_
    repeat (first | apply wp_as | apply wp_ss | refine wr (by simp [e2]; with_reducible rfl) ?_ | refine wq (by simp [e2]; with_reducible rfl) ?_ | refine wt (by simpa [e2]) ?_ | refine wf (by simpa [e2]) ?_ | refine xt (by simpa [e2]) ?_ | refine xf (by simpa [e2]) ?_ | apply wp_bs | apply wp_b | refine wp_sr ?_ | refine wp_sx ?_ | refine wp_ret' ?_ | refine wp_skip' ?_ | refine wp_exit' ?_)
    refine wp_loop ?_
    repeat (first | apply wp_as | apply wp_ss | refine wr (by simp [e3]; with_reducible rfl) ?_ | refine wq (by simp [e3]; with_reducible rfl) ?_ | refine wt (by simpa [e3]) ?_ | refine wf (by simpa [e3]) ?_ | refine xt (by simpa [e3]) ?_ | refine xf (by simpa [e3]) ?_ | apply wp_bs | apply wp_b | refine wp_sr ?_ | refine wp_sx ?_ | refine wp_ret' ?_ | refine wp_skip' ?_ | refine wp_exit' ?_)
    simp [if_impl_Graph_components]
  refine call_of_wp tb_impl_IsConnected rfl ?_
  repeat (first | apply wp_as | apply wp_ss | refine wr (by simp [v1, e4]; with_reducible rfl) ?_ | refine wq (by simp [v1, e4]; with_reducible rfl) ?_ | refine wt (by simpa [v1, e4]) ?_ | refine wf (by simpa [v1, e4]) ?_ | refine xt (by simpa [v1, e4]) ?_ | refine xf (by simpa [v1, e4]) ?_ | apply wp_bs | apply wp_b | refine wp_sr ?_ | refine wp_sx ?_ | refine wp_ret' ?_ | refine wp_skip' ?_ | refine wp_exit' ?_)
  simp [if_impl_IsConnected]

theorem ev_DrawIsConnected (code : List Int) (c : Bool) (h : ∀ x ∈ code, 0 ≤ x ∧ x ≤ 255) (hl : code.length ≤ 10000000) :
    ∃ (n : Int) (es : List (Int × Int)), SmallG n es ∧ limF tb l_spec_DrawIsConnected [] [.lst 1 (bytes code) c] [] = some ⟨Gr n es false, [], [], []⟩ := by
  obtain ⟨c', e⟩ := ev_newReader code c [[[I 0, Z]]] (by omega)
  have e1 := ev_lim e
  obtain ⟨n, es, k, h1, h2, e2⟩ := ev_someGraph (code.take 2000) c' (code_ok h) 0 (by omega) [[I 0, Z]] [] []
  refine ⟨n, es, h1, ev_lim ?_⟩
  rw [show ((0 : Nat) : Int) = 0 from rfl] at e2
  simp only [List.length_cons, List.length_nil, List.cons_append, List.nil_append, Nat.zero_add] at e2
  refine call_of_wp tb_spec_DrawIsConnected rfl ?_
  repeat (first | apply wp_as | apply wp_ss | refine wr (by simp [e1, e2]; with_reducible rfl) ?_ | refine wq (by simp [e1, e2]; with_reducible rfl) ?_ | refine wt (by simpa [e1, e2]) ?_ | refine wf (by simpa [e1, e2]) ?_ | refine xt (by simpa [e1, e2]) ?_ | refine xf (by simpa [e1, e2]) ?_ | apply wp_bs | apply wp_b | refine wp_sr ?_ | refine wp_sx ?_ | refine wp_ret' ?_ | refine wp_skip' ?_ | refine wp_exit' ?_)
  simp [if_spec_DrawIsConnected]

/-- What the law FnIsConnected says of graphs. -/
structure ConLaw (n : Nat) (es : List (Int × Int)) : Prop where
  same : decide ((cmpsS n es 0).length = 1) = decide ((compI n es).length = 1)
  com : (compI n es).length ≠ 1 → (compI n (compM n es)).length = 1
  deg : (compI n es).length = 1 → conn (degs n es) = true

theorem ev_FnIsConnected (law : ∀ (n : Nat) es, vGraph n es = true → 1 ≤ n → ConLaw n es) (code : List Int) (c : Bool) (h : ∀ x ∈ code, 0 ≤ x ∧ x ≤ 255) :
    Ev tb l_laws_FnIsConnected [] [.lst 1 (bytes code) c] [] ⟨Bo true, [], [], []⟩ := by
  by_cases hc : (1048576 : Int) < code.length
  · refine call_of_wp tb_laws_FnIsConnected rfl ?_
    repeat (first | apply wp_as | apply wp_ss | refine wr (by simp [hc]; with_reducible rfl) ?_ | refine wq (by simp [hc]; with_reducible rfl) ?_ | refine wt (by simpa [hc]) ?_ | refine wf (by simpa [hc]) ?_ | refine xt (by simpa [hc]) ?_ | refine xf (by simpa [hc]) ?_ | apply wp_bs | apply wp_b | refine wp_sr ?_ | refine wp_sx ?_ | refine wp_ret' ?_ | refine wp_skip' ?_ | refine wp_exit' ?_)
    simp [if_laws_FnIsConnected]
  obtain ⟨n, es, hS, e1⟩ := ev_DrawIsConnected code c h (by omega)
  have hlen := hS.len
  have v1 := ev_lim (ev_ValidGraph n es false hS.fit (by omega))
  cases hv : vGraph n es with
  | false =>
    rw [hv] at v1
    have e2 := ev_lim (ev_IsConnected_no n es false hS.fit (by omega) hv)
    have e3 := ev_lim (ev_spec_IsConnected_no n es false (by omega) hv)
    refine call_of_wp tb_laws_FnIsConnected rfl ?_
    repeat (first | apply wp_as | apply wp_ss | refine wr (by simp [hc, e1, e2, e3, v1]; with_reducible rfl) ?_ | refine wq (by simp [hc, e1, e2, e3, v1]; with_reducible rfl) ?_ | refine wt (by simpa [hc, e1, e2, e3, v1]) ?_ | refine wf (by simpa [hc, e1, e2, e3, v1]) ?_ | refine xt (by simpa [hc, e1, e2, e3, v1]) ?_ | refine xf (by simpa [hc, e1, e2, e3, v1]) ?_ | apply wp_bs | apply wp_b | refine wp_sr ?_ | refine wp_sx ?_ | refine wp_ret' ?_ | refine wp_skip' ?_ | refine wp_exit' ?_)
    simp [if_laws_FnIsConnected]
  | true =>
  have hn := vG_n hv
  obtain ⟨n, rfl⟩ := Int.eq_ofNat_of_zero_le hn.1
  rw [hv] at v1
  have hn7 := (vG_iff.1 hv).2.2
  have hin := (vG_iff.1 hv).2.1
  by_cases h0 : n = 0
  · subst h0
    have e3 := ev_lim (ev_spec_IsConnected 0 es false (by omega) hv)
    rw [show decide ((cmpsS 0 es 0).length = 1) = false from rfl] at e3
    rw [show ((0 : Nat) : Int) = 0 from rfl] at e1 e3 v1
    have e2 := ev_lim (ev_IsConnected_0 es false v1)
    refine call_of_wp tb_laws_FnIsConnected rfl ?_
    repeat (first | apply wp_as | apply wp_ss | refine wr (by simp [hc, e1, e2, e3, v1]; with_reducible rfl) ?_ | refine wq (by simp [hc, e1, e2, e3, v1]; with_reducible rfl) ?_ | refine wt (by simpa [hc, e1, e2, e3, v1]) ?_ | refine wf (by simpa [hc, e1, e2, e3, v1]) ?_ | refine xt (by simpa [hc, e1, e2, e3, v1]) ?_ | refine xf (by simpa [hc, e1, e2, e3, v1]) ?_ | apply wp_bs | apply wp_b | refine wp_sr ?_ | refine wp_sx ?_ | refine wp_ret' ?_ | refine wp_skip' ?_ | refine wp_exit' ?_)
    simp [if_laws_FnIsConnected]
  have hn1 : 1 ≤ n := by omega
  obtain ⟨l1, l2, l3⟩ := law n es hv hn1
  have e2 := ev_lim (ev_IsConnected n hn1 2 es false (.inl rfl) (by omega) hv v1)
  have e3 := ev_lim (ev_spec_IsConnected n es false (by omega) hv)
  rw [l1] at e3
  by_cases hq : (compI n es).length = 1
  · rw [decide_eq_true hq] at e2 e3
    have e4 := ev_lim (ev_impl_DegreesOf n es false hS.fit (by omega) hv)
    have hdl : (degs n es).length = n := by rw [degs, dfold_len]; simp
    have e5 := ev_lim (ev_IsConnectable (degs n es) false (by omega))
    rw [l3 hq] at e5
    generalize degs n es = D at *
    refine call_of_wp tb_laws_FnIsConnected rfl ?_
    repeat (first | apply wp_as | apply wp_ss | refine wr (by simp [hc, e1, e2, e3, v1, e4, e5, h0]; with_reducible rfl) ?_ | refine wq (by simp [hc, e1, e2, e3, v1, e4, e5, h0]; with_reducible rfl) ?_ | refine wt (by simpa [hc, e1, e2, e3, v1, e4, e5, h0]) ?_ | refine wf (by simpa [hc, e1, e2, e3, v1, e4, e5, h0]) ?_ | refine xt (by simpa [hc, e1, e2, e3, v1, e4, e5, h0]) ?_ | refine xf (by simpa [hc, e1, e2, e3, v1, e4, e5, h0]) ?_ | apply wp_bs | apply wp_b | refine wp_sr ?_ | refine wp_sx ?_ | refine wp_ret' ?_ | refine wp_skip' ?_ | refine wp_exit' ?_)
    simp [if_laws_FnIsConnected]
  rw [decide_eq_false hq] at e2 e3
  have hq2 := l2 hq
  have e7 := ev_lim (ev_ComplementGraph n es false hS.fit (by omega) hv)
  have hvc : vGraph n (compM n es) = true := compM_vG (by omega) es
  have hcf : Fit (compM n es) := fun e he => by
    have := prs_in (n := n) (es := compM n es) List.filter_sublist e he; omega
  have hcl2 : (compM n es).length ≤ 49 := prs_len (by omega) List.filter_sublist
  have e8 : ∀ q, q = nl2 (compM n es) → limF tb l_impl_IsConnected [] [.agg [I n, match q with | .own e x => .lst e (frzLL x) false | x => x]] [] = some ⟨Bo true, [], [], []⟩ := by
    rintro q rfl
    cases hq : compM n es with
    | nil =>
      rw [hq] at hvc hq2
      have z1 := ev_lim (ev_ValidGraph_Z n)
      rw [hvc] at z1
      have := ev_lim (ev_IsConnected n hn1 0 [] true (.inr rfl) (by simp) hvc z1)
      rw [decide_eq_true hq2] at this
      exact this
    | cons e r =>
      rw [hq] at hvc hq2 hcf hcl2
      have z1 := ev_lim (ev_ValidGraph n (e :: r) false hcf (by omega))
      rw [hvc] at z1
      simp only [nl2_cons, frz_eds]
      have := ev_lim (ev_IsConnected n hn1 2 (e :: r) false (.inl rfl) (by omega) hvc z1)
      rw [decide_eq_true hq2] at this
      exact this
  have e8 := e8 _ rfl
  generalize compM n es = Q at *
  cases Q with
  | nil =>
    rw [nl2_nil] at *
    simp only at e8
    refine call_of_wp tb_laws_FnIsConnected rfl ?_
    repeat (first | apply wp_as | apply wp_ss | refine wr (by simp [hc, e1, e2, e3, e7, e8, v1, h0]; with_reducible rfl) ?_ | refine wq (by simp [hc, e1, e2, e3, e7, e8, v1, h0]; with_reducible rfl) ?_ | refine wt (by simpa [hc, e1, e2, e3, e7, e8, v1, h0]) ?_ | refine wf (by simpa [hc, e1, e2, e3, e7, e8, v1, h0]) ?_ | refine xt (by simpa [hc, e1, e2, e3, e7, e8, v1, h0]) ?_ | refine xf (by simpa [hc, e1, e2, e3, e7, e8, v1, h0]) ?_ | apply wp_bs | apply wp_b | refine wp_sr ?_ | refine wp_sx ?_ | refine wp_ret' ?_ | refine wp_skip' ?_ | refine wp_exit' ?_)
    simp [if_laws_FnIsConnected]
  | cons q Q =>
    rw [nl2_cons] at *
    simp only [frz_eds] at e8
    refine call_of_wp tb_laws_FnIsConnected rfl ?_
    repeat (first | apply wp_as | apply wp_ss | refine wr (by simp [hc, e1, e2, e3, e7, e8, v1, h0]; with_reducible rfl) ?_ | refine wq (by simp [hc, e1, e2, e3, e7, e8, v1, h0]; with_reducible rfl) ?_ | refine wt (by simpa [hc, e1, e2, e3, e7, e8, v1, h0]) ?_ | refine wf (by simpa [hc, e1, e2, e3, e7, e8, v1, h0]) ?_ | refine xt (by simpa [hc, e1, e2, e3, e7, e8, v1, h0]) ?_ | refine xf (by simpa [hc, e1, e2, e3, e7, e8, v1, h0]) ?_ | apply wp_bs | apply wp_b | refine wp_sr ?_ | refine wp_sx ?_ | refine wp_ret' ?_ | refine wp_skip' ?_ | refine wp_exit' ?_)
    simp [if_laws_FnIsConnected]

end Go.Idl

namespace Go.Idl

def insP (x : Nat × Nat) : List (Nat × Nat) → List (Nat × Nat)
  | [] => [x]
  | y :: r => if Nat.ble y.1 x.1 then x :: y :: r else y :: insP x r

/-- Pairs by laying off the first, again and again. -/
def hh : Nat → List (Nat × Nat) → List (Nat × Nat)
  | 0, _ => []
  | _ + 1, [] => []
  | m + 1, x :: r => (r.take x.1).map (fun y : Nat × Nat => (x.2, y.2)) ++ hh m ((((r.take x.1).map (fun y : Nat × Nat => (y.1 - 1, y.2)) ++ r.drop x.1 : List (Nat × Nat))).foldr insP [])

theorem inc_nonneg (v : Nat) (e : Int × Int) : 0 ≤ inc v e := by simp only [inc]; split <;> split <;> decide

theorem ite_iff {α : Type} {p q : Prop} [Decidable p] [Decidable q] (h : p ↔ q) (a b : α) : (if p then a else b) = if q then a else b := by
  by_cases hp : p
  · rw [if_pos hp, if_pos (h.1 hp)]
  · rw [if_neg hp, if_neg fun hq => hp (h.2 hq)]

/- Degrees of a graph of a relation. -/

def mk (u v : Nat) : Int × Int := (min (u : Int) v, max (u : Int) v)

theorem mk_mem {n u v : Nat} (hu : u < n) (hv : v < n) (h : u ≠ v) : mk u v ∈ prs n := mem_prs.2 (by simp only [mk]; omega)

end Go.Idl

namespace Go.Idl

theorem idxB_pw (n : Nat) : (idxB n (-1)).Pairwise (fun a b : Int => a < b) := by
  rw [idxB_all, List.pairwise_map]
  exact (List.pairwise_lt_range).imp fun h => by omega

end Go.Idl

namespace Go.Idl

/-- Laying off by numbers alone, of falling lists. -/
def hv : Nat → List Int → Bool
  | 0, _ => true
  | _ + 1, [] => true
  | m + 1, x :: r => decide (x ≤ r.length) && (r.take x.toNat).all (fun y => !decide (y = 0)) && hv m (fall ((r.take x.toNat).map (fun y => y - 1) ++ r.drop x.toNat))

end Go.Idl

namespace Go.Idl

theorem len_sub {α : Type} [DecidableEq α] : ∀ {l k : List α}, l.Nodup → (∀ x ∈ l, x ∈ k) → l.length ≤ k.length
  | [], _, _, _ => by simp
  | a :: l, k, hn, hs => by
    have hn' := List.nodup_cons.1 hn
    have h1 := len_sub (l := l) (k := k.erase a) hn'.2 (fun x hx => (List.mem_erase_of_ne (fun h => hn'.1 (by rw [← h]; exact hx))).2 (hs x (by simp [hx])))
    have h2 := List.length_erase_of_mem (hs a (by simp))
    have h3 : 0 < k.length := List.length_pos_of_mem (hs a (by simp))
    simp only [List.length_cons]; omega

end Go.Idl

namespace Go.Idl

theorem S_zero_iff {α : Type} : ∀ {l : List α} {f : α → Int}, (∀ a ∈ l, 0 ≤ f a) → (S l f = 0 ↔ ∀ a ∈ l, f a = 0)
  | [], f, _ => by simp [S]
  | a :: l, f, h => by
    have h1 := h a (by simp)
    have h2 : 0 ≤ S l f := S_nonneg fun b hb => h b (by simp [hb])
    have h3 := S_zero_iff (l := l) (f := f) fun b hb => h b (by simp [hb])
    rw [S_cons, List.forall_mem_cons, ← h3]
    omega

end Go.Idl

namespace Go.Idl

/-- No edge leaves a set of vertices. -/
def Cl (es : List (Int × Int)) (p : Nat → Bool) : Prop := ∀ e ∈ es, p e.1.toNat = p e.2.toNat

def Con (n : Nat) (es : List (Int × Int)) : Prop := ∀ p, Cl es p → ∀ u v, u < n → v < n → p u = p v

theorem countP_lt {α : Type} {p q : α → Bool} : ∀ {l : List α}, (∀ a ∈ l, p a = true → q a = true) → (∃ a ∈ l, p a = false ∧ q a = true) → l.countP p < l.countP q
  | [], _, ⟨a, h, _⟩ => by cases h
  | b :: l, hi, ⟨a, ha, h1, h2⟩ => by
    rw [List.countP_cons, List.countP_cons]
    have hle : l.countP p ≤ l.countP q := List.countP_mono_left fun x hx => hi x (by simp [hx])
    by_cases hab : a = b
    · subst hab
      rw [h1, h2]; simp; omega
    · have ha2 : a ∈ l := by
        rcases List.mem_cons.1 ha with h | h
        · exact absurd h hab
        · exact h
      have := countP_lt (l := l) (fun x hx => hi x (by simp [hx])) ⟨a, ha2, h1, h2⟩
      have hb := hi b (by simp)
      cases hp : p b with
      | false => cases q b <;> simp <;> omega
      | true => rw [hb hp]; simp; omega

theorem countP_or_le {α : Type} (p q : α → Bool) : ∀ l : List α, (l.countP fun a => p a || q a) ≤ l.countP p + l.countP q
  | [] => by simp
  | a :: l => by
    have := countP_or_le p q l
    rw [List.countP_cons, List.countP_cons, List.countP_cons]
    cases p a <;> cases q a <;> simp <;> omega

theorem S_countP' {α : Type} (p : α → Bool) : ∀ l : List α, S l (fun a => if p a = true then 1 else 0) = (l.countP p : Int)
  | [] => rfl
  | a :: l => by rw [S_cons, S_countP' p l, List.countP_cons]; split <;> simp_all <;> omega

theorem countP_eq_le (n w : Nat) : (List.range n).countP (fun v => decide (v = w)) ≤ 1 := by
  have h1 := S_countP' (fun v => decide (v = w)) (List.range n)
  have h2 := S_one (List.nodup_range (n := n)) w
  have h3 : S (List.range n) (fun a => if decide (a = w) = true then (1 : Int) else 0) = S (List.range n) (fun a => if w = a then 1 else 0) := S_congr fun a _ => ite_iff (by simp [eq_comm]) _ _
  rw [h3, h2] at h1
  split at h1 <;> omega

theorem grow {n : Nat} {es : List (Int × Int)} (hC : Con n es) (hes : ∀ e ∈ es, e.1.toNat < n ∧ e.2.toNat < n) (Z : Nat → Nat → Bool) (h0 : ∃ v, v < n ∧ Z 0 v = true) (hm : ∀ k v, Z k v = true → Z (k + 1) v = true)
    (he : ∀ k, ∀ e ∈ es, (Z k e.1.toNat = true ∨ Z k e.2.toNat = true) → Z (k + 1) e.1.toNat = true ∧ Z (k + 1) e.2.toNat = true) : ∀ k, min (k + 1) n ≤ (List.range n).countP (Z k) ∧ ∃ v, v < n ∧ Z k v = true
  | 0 => by
    obtain ⟨v, hv, hz⟩ := h0
    have : 0 < (List.range n).countP (Z 0) := List.countP_pos_iff.2 ⟨v, List.mem_range.2 hv, hz⟩
    exact ⟨by omega, v, hv, hz⟩
  | k + 1 => by
    obtain ⟨ih, v, hv, hz⟩ := grow hC hes Z h0 hm he k
    refine ⟨?_, v, hv, hm k v hz⟩
    have hle : (List.range n).countP (Z k) ≤ (List.range n).countP (Z (k + 1)) := List.countP_mono_left fun x _ => hm k x
    by_cases hall : ∀ u, u < n → Z k u = true
    · have : (List.range n).countP (Z k) = (List.range n).length := List.countP_eq_length.2 fun a ha => hall a (List.mem_range.1 ha)
      simp at this
      omega
    · simp only [Classical.not_forall] at hall
      obtain ⟨u, hu, hzu⟩ := hall
      have hncl : ¬ Cl es (Z k) := fun hc => hzu (by rw [hC _ hc u v hu hv]; exact hz)
      simp only [Cl, Classical.not_forall] at hncl
      obtain ⟨e, hee, hne⟩ := hncl
      have hlt : (List.range n).countP (Z k) < (List.range n).countP (Z (k + 1)) := by
        have hb := hes e hee
        refine countP_lt (fun x _ => hm k x) ?_
        cases h1 : Z k e.1.toNat with
        | true =>
          have h2 : Z k e.2.toNat = false := by
            cases h2 : Z k e.2.toNat with
            | false => rfl
            | true => rw [h1, h2] at hne; exact absurd rfl hne
          exact ⟨_, List.mem_range.2 hb.2, h2, (he k e hee (.inl h1)).2⟩
        | false =>
          have h2 : Z k e.2.toNat = true := by
            cases h2 : Z k e.2.toNat with
            | true => rfl
            | false => rw [h1, h2] at hne; exact absurd rfl hne
          exact ⟨_, List.mem_range.2 hb.1, h1, (he k e hee (.inr h2)).1⟩
      omega

theorem grow_all {n : Nat} {es : List (Int × Int)} (hC : Con n es) (hes : ∀ e ∈ es, e.1.toNat < n ∧ e.2.toNat < n) (Z : Nat → Nat → Bool) (h0 : ∃ v, v < n ∧ Z 0 v = true) (hm : ∀ k v, Z k v = true → Z (k + 1) v = true)
    (he : ∀ k, ∀ e ∈ es, (Z k e.1.toNat = true ∨ Z k e.2.toNat = true) → Z (k + 1) e.1.toNat = true ∧ Z (k + 1) e.2.toNat = true) : ∀ v, v < n → Z n v = true := fun v hv => by
  have h1 := (grow hC hes Z h0 hm he n).1
  have h2 : (List.range n).countP (Z n) ≤ (List.range n).length := List.countP_le_length
  simp at h2
  have h3 : (List.range n).countP (Z n) = (List.range n).length := by simp; omega
  exact List.countP_eq_length.1 h3 v (List.mem_range.2 hv)

/-! the program's way -/

theorem rnds_succ (es : List (Int × Int)) : ∀ (k : Nat) (o : List Int), rnds es (k + 1) o = es.foldl relax (rnds es k o)
  | 0, _ => rfl
  | k + 1, o => by rw [rnds, rnds_succ es k, rnds]

theorem relax_get {o : List Int} {e : Int × Int} (h1 : e.1.toNat < o.length) (h2 : e.2.toNat < o.length) (v : Nat) :
    (relax o e).getD v 0 = if v = e.1.toNat ∨ v = e.2.toNat then min (o.getD e.1.toNat 0) (o.getD e.2.toNat 0) else o.getD v 0 := by
  rw [relax, List.getD_eq_getElem?_getD, List.getElem?_set, List.getElem?_set]
  by_cases k2 : v = e.2.toNat
  · subst k2
    simp [h2]
  · by_cases k1 : v = e.1.toNat
    · subst k1
      simp [h1, Ne.symm k2]
    · simp [k1, k2, Ne.symm k1, Ne.symm k2]

/-- What every round keeps. -/
def RInv (n : Nat) (p : Nat → Bool) (o : List Int) : Prop := o.length = n ∧ ∀ v, v < n → 0 ≤ o.getD v 0 ∧ o.getD v 0 ≤ v ∧ p (o.getD v 0).toNat = p v

theorem relax_inv {n : Nat} {p : Nat → Bool} {o : List Int} {e : Int × Int} (h1 : e.1.toNat < n) (h2 : e.2.toNat < n) (hp : p e.1.toNat = p e.2.toNat) (h : RInv n p o) : RInv n p (relax o e) := by
  refine ⟨by rw [relax_len]; exact h.1, fun v hv => ?_⟩
  rw [relax_get (by rw [h.1]; exact h1) (by rw [h.1]; exact h2)]
  have a := h.2 _ h1
  have b := h.2 _ h2
  split
  · rename_i hq
    have hpm : p (min (o.getD e.1.toNat 0) (o.getD e.2.toNat 0)).toNat = p v := by
      have hpv : p v = p e.1.toNat := by
        rcases hq with rfl | rfl
        · rfl
        · exact hp.symm
      rcases Int.le_total (o.getD e.1.toNat 0) (o.getD e.2.toNat 0) with hl | hl
      · rw [Int.min_eq_left hl, a.2.2, hpv]
      · rw [Int.min_eq_right hl, b.2.2, hpv, hp]
    refine ⟨by omega, ?_, hpm⟩
    rcases hq with rfl | rfl <;> omega
  · exact h.2 v hv

theorem fold_inv {n : Nat} {p : Nat → Bool} : ∀ (es : List (Int × Int)) {o : List Int}, (∀ e ∈ es, e.1.toNat < n ∧ e.2.toNat < n) → Cl es p → RInv n p o → RInv n p (es.foldl relax o)
  | [], _, _, _, h => h
  | e :: es, _, he, hc, h => fold_inv es (fun x hx => he x (by simp [hx])) (fun x hx => hc x (by simp [hx])) (relax_inv (he e (by simp)).1 (he e (by simp)).2 (hc e (by simp)) h)

theorem rnds_inv {n : Nat} {p : Nat → Bool} {es : List (Int × Int)} (he : ∀ e ∈ es, e.1.toNat < n ∧ e.2.toNat < n) (hc : Cl es p) : ∀ (k : Nat) {o : List Int}, RInv n p o → RInv n p (rnds es k o)
  | 0, _, h => h
  | k + 1, _, h => rnds_inv he hc k (fold_inv es he hc h)

theorem base_inv (n : Nat) (p : Nat → Bool) : RInv n p (idxB n (-1)) := by
  have hg : ∀ v, v < n → (idxB n (-1)).getD v 0 = (v : Int) := fun v hv => by
    rw [idxB_all, List.getD_eq_getElem?_getD, List.getElem?_map, List.getElem?_range hv]; rfl
  refine ⟨by rw [idxB_all]; simp, fun v hv => ?_⟩
  rw [hg v hv]
  exact ⟨by omega, by omega, by rw [Int.toNat_natCast]⟩

theorem fold_zero {n : Nat} : ∀ (es : List (Int × Int)) {o : List Int} {v : Nat}, (∀ e ∈ es, e.1.toNat < n ∧ e.2.toNat < n) → RInv n (fun _ => true) o → v < n → o.getD v 0 = 0 → (es.foldl relax o).getD v 0 = 0
  | [], _, _, _, _, _, h => h
  | e :: es, o, v, he, hi, hv, h => by
    have hb := he e (by simp)
    have hi2 := relax_inv hb.1 hb.2 rfl hi
    refine fold_zero es (fun x hx => he x (by simp [hx])) hi2 hv ?_
    rw [relax_get (by rw [hi.1]; exact hb.1) (by rw [hi.1]; exact hb.2)]
    have a := hi.2 _ hb.1
    have b := hi.2 _ hb.2
    split
    · rename_i hq
      rcases hq with rfl | rfl <;> omega
    · exact h

theorem fold_edge {n : Nat} : ∀ (es : List (Int × Int)) {o : List Int}, (∀ e ∈ es, e.1.toNat < n ∧ e.2.toNat < n) → RInv n (fun _ => true) o → ∀ e ∈ es, (o.getD e.1.toNat 0 = 0 ∨ o.getD e.2.toNat 0 = 0) →
    (es.foldl relax o).getD e.1.toNat 0 = 0 ∧ (es.foldl relax o).getD e.2.toNat 0 = 0
  | [], _, _, _, _, h, _ => by cases h
  | f :: es, o, he, hi, e, hm, h => by
    have hb := he f (by simp)
    have hbe := he e hm
    have he' : ∀ e ∈ es, e.1.toNat < n ∧ e.2.toNat < n := fun x hx => he x (by simp [hx])
    have hi2 := relax_inv hb.1 hb.2 rfl hi
    have a := hi.2 _ hb.1
    have b := hi.2 _ hb.2
    have rg := fun v => relax_get (o := o) (e := f) (by rw [hi.1]; exact hb.1) (by rw [hi.1]; exact hb.2) v
    rcases List.mem_cons.1 hm with rfl | hm2
    · refine ⟨fold_zero es he' hi2 hb.1 ?_, fold_zero es he' hi2 hb.2 ?_⟩
      · rw [rg, if_pos (.inl rfl)]; omega
      · rw [rg, if_pos (.inr rfl)]; omega
    · refine fold_edge es he' hi2 e hm2 ?_
      rcases h with h | h
      · left
        rw [rg]
        split
        · rename_i hq
          rcases hq with hq | hq <;> rw [hq] at h <;> omega
        · exact h
      · right
        rw [rg]
        split
        · rename_i hq
          rcases hq with hq | hq <;> rw [hq] at h <;> omega
        · exact h

theorem con_zero {n : Nat} (hn1 : 1 ≤ n) {es : List (Int × Int)} (hes : ∀ e ∈ es, e.1.toNat < n ∧ e.2.toNat < n) (hC : Con n es) : ∀ v, v < n → (rnds es n (idxB n (-1))).getD v 0 = 0 := by
  have hi : ∀ k, RInv n (fun _ => true) (rnds es k (idxB n (-1))) := fun k => rnds_inv hes (fun _ _ => rfl) k (base_inv n _)
  have hb := base_inv n (fun _ => true)
  have hA : ∀ v, v < n → (fun (k v : Nat) => decide (v < n) && decide ((rnds es k (idxB n (-1))).getD v 0 = 0)) n v = true := by
    refine grow_all hC hes (fun k v => decide (v < n) && decide ((rnds es k (idxB n (-1))).getD v 0 = 0)) ⟨0, by omega, ?_⟩ (fun k v h => ?_) (fun k e he h => ?_)
    · have hz := hb.2 0 (by omega)
      have hz2 : (idxB n (-1)).getD 0 0 = 0 := by
        have h1 := hz.1
        have h2 := hz.2.1
        omega
      show (decide (0 < n) && decide ((idxB n (-1)).getD 0 0 = 0)) = true
      rw [decide_eq_true (show 0 < n by omega), decide_eq_true hz2]; rfl
    · simp only [Bool.and_eq_true, decide_eq_true_eq] at h ⊢
      rw [rnds_succ]
      exact ⟨h.1, fold_zero es hes (hi k) h.1 h.2⟩
    · have hbe := hes e he
      simp only [Bool.and_eq_true, decide_eq_true_eq] at h ⊢
      rw [rnds_succ]
      have := fold_edge es hes (hi k) e he (h.elim (fun h => .inl h.2) (fun h => .inr h.2))
      exact ⟨⟨hbe.1, this.1⟩, ⟨hbe.2, this.2⟩⟩
  intro v hv
  have := hA v hv
  simp only [Bool.and_eq_true, decide_eq_true_eq] at this
  exact this.2

theorem compI_len (n : Nat) (es : List (Int × Int)) : (compI n es).length = ((rgF n 0).filter (isR (rnds es n (idxB n (-1))))).length := by rw [compI, partsF, List.length_map]

theorem cmpsS_len (n : Nat) (es : List (Int × Int)) : (cmpsS n es 0).length = ((rgF n 0).filter (hdV n es)).length := by rw [cmpsS, List.length_map]

theorem one_zero {n : Nat} (hn1 : 1 ≤ n) (p : Int → Bool) (h0 : p 0 = true) (h : ∀ v : Nat, v < n → 1 ≤ v → p v = false) : ((rgF n 0).filter p).length = 1 := by
  rw [rgF_cons (show 0 < n by omega), show ((0 : Nat) : Int) = 0 from rfl, List.filter_cons_of_pos h0, List.filter_eq_nil_iff.2 fun x hx => ?_]
  · rfl
  · have hb := mem_rgF.1 hx
    obtain ⟨k, rfl⟩ := Int.eq_ofNat_of_zero_le (show 0 ≤ x by omega)
    rw [h k (by omega) (by omega)]; simp

theorem two_more {n : Nat} (p : Int → Bool) {a b : Nat} (ha : a < n) (hb : b < n) (hab : a ≠ b) (pa : p a = true) (pb : p b = true) : 2 ≤ ((rgF n 0).filter p).length := by
  have : [(a : Int), (b : Int)].length ≤ ((rgF n 0).filter p).length := len_sub (by simp; omega) fun x hx => by
    simp only [List.mem_cons, List.not_mem_nil, or_false] at hx
    rcases hx with rfl | rfl
    · exact List.mem_filter.2 ⟨mem_rgF.2 (by omega), pa⟩
    · exact List.mem_filter.2 ⟨mem_rgF.2 (by omega), pb⟩
  simpa using this

/-- The least vertex of a class. -/
theorem least_of {n : Nat} {p : Nat → Bool} {b : Bool} {v : Nat} (hv : v < n) (h : p v = b) : ∃ r, r < n ∧ p r = b ∧ ∀ u, u < r → p u ≠ b := by
  induction v using Nat.strongRecOn with
  | _ v ih =>
    by_cases hq : ∃ u, u < v ∧ p u = b
    · obtain ⟨u, hu, hpu⟩ := hq
      exact ih u hu (by omega) hpu
    · exact ⟨v, hv, h, fun u hu hpu => hq ⟨u, hu, hpu⟩⟩

theorem not_con {n : Nat} {es : List (Int × Int)} (h : ¬ Con n es) : ∃ p a b, Cl es p ∧ a < n ∧ b < n ∧ p a = true ∧ p b = false ∧ (∀ u, u < a → p u ≠ true) ∧ ∀ u, u < b → p u ≠ false := by
  simp only [Con, Classical.not_forall] at h
  obtain ⟨p, hc, u, v, hu, hv, hne⟩ := h
  have ht : ∃ x, x < n ∧ p x = true := by
    cases h1 : p u with
    | true => exact ⟨u, hu, h1⟩
    | false =>
      cases h2 : p v with
      | true => exact ⟨v, hv, h2⟩
      | false => rw [h1, h2] at hne; exact absurd rfl hne
  have hf : ∃ x, x < n ∧ p x = false := by
    cases h1 : p u with
    | false => exact ⟨u, hu, h1⟩
    | true =>
      cases h2 : p v with
      | false => exact ⟨v, hv, h2⟩
      | true => rw [h1, h2] at hne; exact absurd rfl hne
  obtain ⟨x, hx, hpx⟩ := ht
  obtain ⟨y, hy, hpy⟩ := hf
  obtain ⟨a, a1, a2, a3⟩ := least_of hx hpx
  obtain ⟨b, b1, b2, b3⟩ := least_of hy hpy
  exact ⟨p, a, b, hc, a1, b1, a2, b2, a3, b3⟩

theorem compI_one {n : Nat} (hn1 : 1 ≤ n) {es : List (Int × Int)} (hes : ∀ e ∈ es, e.1.toNat < n ∧ e.2.toNat < n) : (compI n es).length = 1 ↔ Con n es := by
  rw [compI_len]
  constructor
  · intro h1
    refine Classical.byContradiction fun hC => ?_
    obtain ⟨p, a, b, hc, ha, hb, pa, pb, la, lb⟩ := not_con hC
    have hi := rnds_inv hes hc n (base_inv n p)
    have key : ∀ (r : Nat) (x : Bool), r < n → p r = x → (∀ u, u < r → p u ≠ x) → isR (rnds es n (idxB n (-1))) r = true := fun r x hr hpr hl => by
      rw [isR, inP, Int.toNat_natCast, decide_eq_true_eq]
      have := hi.2 r hr
      by_cases hq : (rnds es n (idxB n (-1))).getD r 0 = r
      · exact hq
      · exact absurd (this.2.2.trans hpr) (hl _ (by omega))
    have := two_more (isR (rnds es n (idxB n (-1)))) ha hb (fun h => by rw [h, pb] at pa; cases pa) (key a true ha pa la) (key b false hb pb lb)
    omega
  · intro hC
    have hz := con_zero hn1 hes hC
    refine one_zero hn1 _ ?_ fun v hv h1 => ?_
    · rw [isR, inP, decide_eq_true_eq]; exact hz 0 (by omega)
    · rw [isR, inP, Int.toNat_natCast, hz v hv, decide_eq_false_iff_not]; omega

/-! the reference's way -/

theorem mrks_succ (es : List (Int × Int)) : ∀ (k : Nat) (o : List Bool), mrks es (k + 1) o = es.foldl mark (mrks es k o)
  | 0, _ => rfl
  | k + 1, o => by rw [mrks, mrks_succ es k, mrks]

theorem mark_get {l : List Bool} {e : Int × Int} (h1 : e.1.toNat < l.length) (h2 : e.2.toNat < l.length) (v : Nat) :
    (mark l e).getD v false = if (l.getD e.1.toNat false || l.getD e.2.toNat false) = true ∧ (v = e.1.toNat ∨ v = e.2.toNat) then true else l.getD v false := by
  rw [mark]
  by_cases hq : (l.getD e.1.toNat false || l.getD e.2.toNat false) = true
  · by_cases k2 : v = e.2.toNat
    · have hR : (if (l.getD e.1.toNat false || l.getD e.2.toNat false) = true ∧ (v = e.1.toNat ∨ v = e.2.toNat) then true else l.getD v false) = true := if_pos ⟨hq, .inr k2⟩
      rw [hR, if_pos hq, List.getD_eq_getElem?_getD, k2, List.getElem?_set_self (by simpa using h2)]; rfl
    · by_cases k1 : v = e.1.toNat
      · have hR : (if (l.getD e.1.toNat false || l.getD e.2.toNat false) = true ∧ (v = e.1.toNat ∨ v = e.2.toNat) then true else l.getD v false) = true := if_pos ⟨hq, .inl k1⟩
        rw [hR, if_pos hq, List.getD_eq_getElem?_getD, List.getElem?_set_ne (Ne.symm k2), k1, List.getElem?_set_self h1]; rfl
      · have hR : (if (l.getD e.1.toNat false || l.getD e.2.toNat false) = true ∧ (v = e.1.toNat ∨ v = e.2.toNat) then true else l.getD v false) = l.getD v false := if_neg fun h => h.2.elim k1 k2
        rw [hR, if_pos hq, List.getD_eq_getElem?_getD, List.getElem?_set_ne (Ne.symm k2), List.getElem?_set_ne (Ne.symm k1), List.getD_eq_getElem?_getD]
  · rw [if_neg hq, if_neg fun h => hq h.1]

theorem foldm_edge {n : Nat} : ∀ (es : List (Int × Int)) {l : List Bool}, l.length = n → (∀ e ∈ es, e.1.toNat < n ∧ e.2.toNat < n) → ∀ e ∈ es, (l.getD e.1.toNat false = true ∨ l.getD e.2.toNat false = true) →
    (es.foldl mark l).getD e.1.toNat false = true ∧ (es.foldl mark l).getD e.2.toNat false = true
  | [], _, _, _, _, h, _ => by cases h
  | f :: es, l, hl, he, e, hm, h => by
    have he' : ∀ e ∈ es, e.1.toNat < n ∧ e.2.toNat < n := fun x hx => he x (by simp [hx])
    have hb := he f (by simp)
    rcases List.mem_cons.1 hm with rfl | hm2
    · have hq : (l.getD e.1.toNat false || l.getD e.2.toNat false) = true := by
        rcases h with h | h <;> rw [h] <;> simp
      refine ⟨fold_keep es ?_, fold_keep es ?_⟩
      · rw [mark_get (by omega) (by omega), if_pos ⟨hq, .inl rfl⟩]
      · rw [mark_get (by omega) (by omega), if_pos ⟨hq, .inr rfl⟩]
    · exact foldm_edge es (by rw [mark_len, hl]) he' e hm2 (h.elim (fun h => .inl (mark_keep h)) (fun h => .inr (mark_keep h)))

theorem foldm_cls {p : Nat → Bool} {v n : Nat} : ∀ (es : List (Int × Int)) {l : List Bool}, l.length = n → (∀ e ∈ es, e.1.toNat < n ∧ e.2.toNat < n) → Cl es p → (∀ u, l.getD u false = true → p u = p v) → ∀ u, (es.foldl mark l).getD u false = true → p u = p v
  | [], _, _, _, _, h => h
  | e :: es, l, hl, he, hc, h => by
    have hb := he e (by simp)
    refine foldm_cls es (by rw [mark_len, hl]) (fun x hx => he x (by simp [hx])) (fun x hx => hc x (by simp [hx])) fun u hu => ?_
    rw [mark_get (by omega) (by omega)] at hu
    split at hu
    · rename_i hq
      have hce := hc e (by simp)
      have h1 : p e.1.toNat = p v := by
        have hq1 := hq.1
        rw [Bool.or_eq_true] at hq1
        rcases hq1 with hq1 | hq1
        · exact h _ hq1
        · rw [hce]; exact h _ hq1
      rcases hq.2 with rfl | rfl
      · exact h1
      · rw [← hce]; exact h1
    · exact h u hu

theorem mrks_cls {p : Nat → Bool} {v n : Nat} {es : List (Int × Int)} (he : ∀ e ∈ es, e.1.toNat < n ∧ e.2.toNat < n) (hc : Cl es p) : ∀ (k : Nat) {l : List Bool}, l.length = n → (∀ u, l.getD u false = true → p u = p v) → ∀ u, (mrks es k l).getD u false = true → p u = p v
  | 0, _, _, h => h
  | k + 1, l, hl, h => mrks_cls he hc k (by rw [foldm_len, hl]) (foldm_cls es hl he hc h)

theorem start_get {n v : Nat} (hv : v < n) (u : Nat) : ((List.replicate n false).set v true).getD u false = decide (u = v) := by
  rw [List.getD_eq_getElem?_getD, List.getElem?_set]
  by_cases h : v = u
  · subst h; simp [hv]
  · have : ¬ u = v := fun hh => h hh.symm
    rw [if_neg h, decide_eq_false this, List.getElem?_replicate]; split <;> rfl

theorem cmpS_pw (n : Nat) (es : List (Int × Int)) (v : Nat) : (cmpS n es v).Pairwise (fun a b : Int => a < b) := by
  refine List.Pairwise.filter _ ?_
  rw [rgF_all]
  exact idxB_pw n

theorem cmpsS_one {n : Nat} (hn1 : 1 ≤ n) {es : List (Int × Int)} (hes : ∀ e ∈ es, e.1.toNat < n ∧ e.2.toNat < n) : (cmpsS n es 0).length = 1 ↔ Con n es := by
  rw [cmpsS_len]
  constructor
  · intro h1
    refine Classical.byContradiction fun hC => ?_
    obtain ⟨p, a, b, hc, ha, hb, pa, pb, la, lb⟩ := not_con hC
    have key : ∀ (r : Nat) (x : Bool), r < n → p r = x → (∀ u, u < r → p u ≠ x) → hdV n es r = true := fun r x hr hpr hl => by
      rw [hdV, Int.toNat_natCast, decide_eq_true_eq]
      have hm := mem_cmpS (es := es) hr
      have hpw := cmpS_pw n es r
      have hall : ∀ u ∈ cmpS n es r, (r : Int) ≤ u := fun u hu => by
        have h2 := List.mem_filter.1 hu
        have hb := mem_rgF.1 h2.1
        have h3 := mrks_cls (v := r) hes hc n (l := (List.replicate n false).set r true) (by simp) (fun w hw => by rw [start_get hr, decide_eq_true_eq] at hw; rw [hw]) u.toNat h2.2
        by_cases hq : (r : Int) ≤ u
        · exact hq
        · exact absurd (h3.trans hpr) (hl _ (by omega))
      cases hC : cmpS n es r with
      | nil => rw [hC] at hm; cases hm
      | cons y ys =>
        rw [hC] at hm hpw hall
        have hy := hall y (by simp)
        rcases List.mem_cons.1 hm with h | h
        · exact h.symm
        · have := (List.pairwise_cons.1 hpw).1 _ h
          show y = r
          omega
    have := two_more (hdV n es) ha hb (fun h => by rw [h, pb] at pa; cases pa) (key a true ha pa la) (key b false hb pb lb)
    omega
  · intro hC
    have hall : ∀ v, v < n → ∀ u, u < n → (mrks es n ((List.replicate n false).set v true)).getD u false = true := fun v hv => by
      have hlen : ∀ k, (mrks es k ((List.replicate n false).set v true)).length = n := fun k => by rw [mrks_len]; simp
      refine grow_all hC hes (fun k u => (mrks es k ((List.replicate n false).set v true)).getD u false) ⟨v, hv, ?_⟩ (fun k u h => ?_) (fun k e he h => ?_)
      · show ((List.replicate n false).set v true).getD v false = true
        rw [start_get hv]; simp
      · rw [mrks_succ]; exact fold_keep es h
      · rw [mrks_succ]; exact foldm_edge es (hlen k) hes e he h
    have hcm : ∀ v, v < n → cmpS n es v = rgF n 0 := fun v hv => List.filter_eq_self.2 fun u hu => by
      have hb := mem_rgF.1 hu
      exact hall v hv _ (by omega)
    have hhd : ∀ v : Nat, v < n → hdV n es v = decide ((0 : Int) = v) := fun v hv => by
      rw [hdV, Int.toNat_natCast, hcm v hv, rgF_cons (show 0 < n by omega)]; rfl
    refine one_zero hn1 _ ?_ fun v hv h1 => ?_
    · have := hhd 0 (by omega)
      rw [show ((0 : Nat) : Int) = 0 from rfl] at this
      rw [this]; rfl
    · rw [hhd v hv, decide_eq_false_iff_not]; omega

theorem con_compl {n : Nat} {es : List (Int × Int)} (h : ¬ Con n es) : Con n (compM n es) := by
  obtain ⟨p, a, b, hc, ha, hb, pa, pb, -, -⟩ := not_con h
  intro q hq
  have key : ∀ u v, u < n → v < n → p u ≠ p v → q u = q v := fun u v hu hv hne => by
    have huv : u ≠ v := fun h => hne (by rw [h])
    have hm := mk_mem hu hv huv
    have hno : mk u v ∉ es := fun hh => by
      have := hc _ hh
      rcases Nat.le_total u v with h | h
      · rw [show (mk u v).1.toNat = u by simp only [mk]; omega, show (mk u v).2.toNat = v by simp only [mk]; omega] at this
        exact hne this
      · rw [show (mk u v).1.toNat = v by simp only [mk]; omega, show (mk u v).2.toNat = u by simp only [mk]; omega] at this
        exact hne this.symm
    have hcm : mk u v ∈ compM n es := List.mem_filter.2 ⟨hm, by rw [hasM_mem hm]; simp [hno]⟩
    have := hq _ hcm
    rcases Nat.le_total u v with h | h
    · rw [show (mk u v).1.toNat = u by simp only [mk]; omega, show (mk u v).2.toNat = v by simp only [mk]; omega] at this
      exact this
    · rw [show (mk u v).1.toNat = v by simp only [mk]; omega, show (mk u v).2.toNat = u by simp only [mk]; omega] at this
      exact this.symm
  have hab := key a b ha hb (by rw [pa, pb]; simp)
  have one : ∀ u, u < n → q u = q a := fun u hu => by
    cases hpu : p u with
    | true => rw [hab]; exact key u b hu hb (by rw [hpu, pb]; simp)
    | false => exact key u a hu ha (by rw [hpu, pa]; simp)
  exact fun u v hu hv => (one u hu).trans (one v hv).symm

theorem con_edges {n : Nat} {es : List (Int × Int)} (hes : ∀ e ∈ es, e.1.toNat < n ∧ e.2.toNat < n) (hC : Con n es) : ∀ k, k + 1 ≤ n → ∃ Z : Nat → Bool, (∃ v, v < n ∧ Z v = true) ∧ (List.range n).countP Z ≤ k + 1 ∧ k ≤ es.countP fun e => Z e.1.toNat && Z e.2.toNat
  | 0, h => ⟨fun v => decide (v = 0), ⟨0, by omega, rfl⟩, countP_eq_le n 0, by omega⟩
  | k + 1, h => by
    obtain ⟨Z, ⟨v, hv, hz⟩, hc, hk⟩ := con_edges hes hC k (by omega)
    have hex : ∃ u, u < n ∧ Z u = false := by
      refine Classical.byContradiction fun hno => ?_
      have : (List.range n).countP Z = (List.range n).length := List.countP_eq_length.2 fun a ha => by
        cases hq : Z a with
        | true => rfl
        | false => exact absurd ⟨a, List.mem_range.1 ha, hq⟩ hno
      simp at this
      omega
    obtain ⟨u, hu, hzu⟩ := hex
    have hncl : ¬ Cl es Z := fun hcl => by have := hC _ hcl u v hu hv; rw [hz, hzu] at this; cases this
    simp only [Cl, Classical.not_forall] at hncl
    obtain ⟨e, hee, hne⟩ := hncl
    have hb := hes e hee
    have step : ∀ w, w < n → Z w = false → (∀ x, (x = e.1.toNat ∨ x = e.2.toNat) → (Z x || decide (x = w)) = true) → (Z e.1.toNat && Z e.2.toNat) = false → ∃ Z : Nat → Bool, (∃ v, v < n ∧ Z v = true) ∧ (List.range n).countP Z ≤ k + 1 + 1 ∧ k + 1 ≤ es.countP fun e => Z e.1.toNat && Z e.2.toNat := fun w hw hzw hx hin => by
      refine ⟨fun x => Z x || decide (x = w), ⟨v, hv, by simp [hz]⟩, ?_, ?_⟩
      · have h1 := countP_or_le Z (fun x => decide (x = w)) (List.range n)
        have h2 := countP_eq_le n w
        omega
      · have := countP_lt (p := fun e : Int × Int => Z e.1.toNat && Z e.2.toNat) (q := fun e : Int × Int => (Z e.1.toNat || decide (e.1.toNat = w)) && (Z e.2.toNat || decide (e.2.toNat = w))) (l := es) (fun x _ hx => by
          simp only [Bool.and_eq_true] at hx ⊢
          simp [hx.1, hx.2]) ⟨e, hee, hin, by rw [hx _ (.inl rfl), hx _ (.inr rfl)]; rfl⟩
        show k + 1 ≤ es.countP fun e : Int × Int => (Z e.1.toNat || decide (e.1.toNat = w)) && (Z e.2.toNat || decide (e.2.toNat = w))
        omega
    cases h1 : Z e.1.toNat with
    | true =>
      have h2 : Z e.2.toNat = false := by
        cases h2 : Z e.2.toNat with
        | false => rfl
        | true => rw [h1, h2] at hne; exact absurd rfl hne
      exact step e.2.toNat hb.2 h2 (fun x hx => by rcases hx with rfl | rfl <;> simp [h1]) (by simp [h2])
    | false =>
      have h2 : Z e.2.toNat = true := by
        cases h2 : Z e.2.toNat with
        | true => rfl
        | false => rw [h1, h2] at hne; exact absurd rfl hne
      exact step e.1.toNat hb.1 h1 (fun x hx => by rcases hx with rfl | rfl <;> simp [h2]) (by simp [h1])

theorem con_conn {n : Nat} (hn1 : 1 ≤ n) {es : List (Int × Int)} (h : vGraph n es = true) (hC : Con n es) : conn (degs n es) = true := by
  have hin := (vG_iff.1 h).2.1
  have hes : ∀ e ∈ es, e.1.toNat < n ∧ e.2.toNat < n := fun e he => by have := mem_prs.1 (hin e he); omega
  have hdl : (degs n es).length = n := by rw [degs, dfold_len]; simp
  have hE : EdgesIn n es := fun e he => by have := mem_prs.1 (hin e he); omega
  obtain ⟨Z, -, -, hk⟩ := con_edges hes hC (n - 1) (by omega)
  have hle : (es.countP fun e => Z e.1.toNat && Z e.2.toNat) ≤ es.length := List.countP_le_length
  rw [conn, degs_graphic h, degs_sum hin, hdl]
  simp only [Bool.true_and, Bool.and_eq_true, decide_eq_true_eq, Bool.or_eq_true]
  refine ⟨by omega, ?_, by omega⟩
  by_cases h1 : n = 1
  · exact .inl h1
  · refine .inr ?_
    rw [posAll, degs_eq hE, List.all_eq_true]
    intro x hx
    obtain ⟨v, hv, rfl⟩ := List.mem_map.1 hx
    have hv := List.mem_range.1 hv
    have hnn : ∀ e ∈ es, 0 ≤ inc v e := fun e _ => inc_nonneg v e
    have h0 : 0 ≤ deg es v := S_nonneg hnn
    by_cases hz : deg es v = 0
    · exfalso
      have hz2 := (S_zero_iff hnn).1 hz
      have hcl : Cl es (fun u => decide (u = v)) := fun e he => by
        have h1 := hz2 e he
        have hb := mem_prs.1 (hin e he)
        simp only [inc] at h1
        by_cases k1 : e.1 = v
        · rw [if_pos k1] at h1; split at h1 <;> omega
        · by_cases k2 : e.2 = v
          · rw [if_pos k2, if_neg k1] at h1; omega
          · show decide (e.1.toNat = v) = decide (e.2.toNat = v)
            rw [decide_eq_false (by omega), decide_eq_false (by omega)]
      obtain ⟨w, hw, hwv⟩ : ∃ w, w < n ∧ w ≠ v := by
        by_cases hv0 : v = 0
        · exact ⟨1, by omega, by omega⟩
        · exact ⟨0, by omega, by omega⟩
      have := hC _ hcl v w hv hw
      simp only [decide_true] at this
      exact hwv (of_decide_eq_true this.symm)
    · simp only [decide_eq_true_eq]; omega

theorem conLaw : ∀ (n : Nat) es, vGraph n es = true → 1 ≤ n → ConLaw n es := fun n es h hn1 => by
  have hin := (vG_iff.1 h).2.1
  have hn7 := (vG_iff.1 h).2.2
  have hes : ∀ e ∈ es, e.1.toNat < n ∧ e.2.toNat < n := fun e he => by have := mem_prs.1 (hin e he); omega
  have hes2 : ∀ e ∈ compM n es, e.1.toNat < n ∧ e.2.toNat < n := fun e he => by have := mem_prs.1 ((vG_iff.1 (compM_vG hn7 es)).2.1 e he); omega
  refine ⟨?_, fun hq => ?_, fun hq => con_conn hn1 h ((compI_one hn1 hes).1 hq)⟩
  · rw [decide_eq_decide, compI_one hn1 hes, cmpsS_one hn1 hes]
  · exact (compI_one hn1 hes2).2 (con_compl fun hC => hq ((compI_one hn1 hes).2 hC))

end Go.Idl

