/- Part 6 of a proof by an ideal interpreter of the code: its definitions and lemmas. Conditions: none. -/
import Derived.KernelRfl
import Derived.Test.YteadaceimbjjcaaA5
set_option linter.all false
set_option linter.unusedVariables false
set_option linter.unusedSimpArgs false
namespace Go.Idl

open Go

theorem rI_succ (i : Nat) : rI (i + 1) = rI i ++ [(i : Int)] := by simp [rI, List.range_succ]

theorem mv_to (n : Nat) (hn : n ≤ 7) (es : List (Int × Int)) (c : Bool) (B : Boxes) (Ms : List Boxes) : ∀ (m i : Nat), i + m = n →
    wp tb (.loop ic_spec_moved_l6) { T := [(0, .bptr 0 0 0), (3, .bptr (Ms.length + 1) 0 0), (4, .bptr (Ms.length + 1) 1 0), (5, O (rI i)), (6, I i)], loc := [[I n, L2 es c], [I 0, Z]], M := B :: Ms }
      (fun ex st => ex = .exit 0 ∧ st = { T := [(0, .bptr 0 0 0), (3, .bptr (Ms.length + 1) 0 0), (4, .bptr (Ms.length + 1) 1 0), (5, O (rI n)), (6, I n), (16, Bo false)], loc := [[I n, L2 es c], [I 0, Z]], M := B :: Ms }) := by
  intro m
  induction m with
  | zero =>
    intro i hi
    have h3 : i = n := hi
    subst h3
    refine wp_loop ?_
    repeat (first | apply wp_as | apply wp_ss | refine wr (by simp; with_reducible rfl) ?_ | refine wq (by simp; with_reducible rfl) ?_ | refine wt (by simpa) ?_ | refine wf (by simpa) ?_ | refine xt (by simpa) ?_ | refine xf (by simpa) ?_ | apply wp_bs | apply wp_b | refine wp_sr ?_ | refine wp_sx ?_ | refine wp_ret' ?_ | refine wp_skip' ?_ | refine wp_exit' ?_)
    exact ⟨rfl, rfl⟩
  | succ m ih =>
    intro i hi
    have hi2 : i < n := by omega
    have w2 : IntKind.i64.wrap ((i : Int) + 1) = ((i + 1 : Nat) : Int) := wrapS (by omega)
    have hn2 := ih (i + 1) (by omega)
    rw [rI_succ] at hn2
    have hal := rI_len i
    generalize rI i = A at *
    have hl1 : i + 1 ≤ 274877906944 := by omega
    have hT : A.take i = A := List.take_of_length_le (by omega)
    refine wp_loop ?_
    repeat (first | apply wp_as | apply wp_ss | refine wr (by simp [hi2, w2, hal, hl1, hT]; with_reducible rfl) ?_ | refine wq (by simp [hi2, w2, hal, hl1, hT]; with_reducible rfl) ?_ | refine wt (by simpa [hi2, w2, hal, hl1, hT]) ?_ | refine wf (by simpa [hi2, w2, hal, hl1, hT]) ?_ | refine xt (by simpa [hi2, w2, hal, hl1, hT]) ?_ | refine xf (by simpa [hi2, w2, hal, hl1, hT]) ?_ | apply wp_bs | apply wp_b | refine wp_sr ?_ | refine wp_sx ?_ | refine wp_ret' ?_ | refine wp_skip' ?_ | refine wp_exit' ?_)
    exact hn2

theorem mv_sw (code : List Int) (c0 : Bool) (hc : CodeOk code) (n : Nat) (hn : n ≤ 7) (es : List (Int × Int)) (c : Bool) (bs : Boxes) (Ms : List Boxes) : ∀ (m i cnt : Nat) (to : List Int), i + m = n → to.length = n → (∀ x ∈ to, 0 ≤ x ∧ x < n) → cnt + m ≤ 900000 →
    wp tb (.loop ic_spec_moved_l14) { T := [(0, .bptr 0 0 0), (3, .bptr (Ms.length + 1) 0 0), (4, .bptr (Ms.length + 1) 1 0), (5, O to), (7, I i)], loc := [[I n, L2 es c], [I 0, Z]], M := (R code c0 cnt :: bs) :: Ms }
      (fun ex st => ex = .exit 2 ∧ ∃ (to : List Int) (k : Nat), (to.length = n ∧ (∀ x ∈ to, 0 ≤ x ∧ x < n) ∧ k ≤ cnt + m) ∧ st = { T := [(0, .bptr 0 0 0), (3, .bptr (Ms.length + 1) 0 0), (4, .bptr (Ms.length + 1) 1 0), (5, O to), (7, I n), (26, Bo false)], loc := [[I n, L2 es c], [I 0, Z]], M := (R code c0 k :: bs) :: Ms }) := by
  intro m
  induction m with
  | zero =>
    intro i cnt to hi hl hb hk
    have h3 : i = n := hi
    subst h3
    refine wp_loop ?_
    repeat (first | apply wp_as | apply wp_ss | refine wr (by simp; with_reducible rfl) ?_ | refine wq (by simp; with_reducible rfl) ?_ | refine wt (by simpa) ?_ | refine wf (by simpa) ?_ | refine xt (by simpa) ?_ | refine xf (by simpa) ?_ | apply wp_bs | apply wp_b | refine wp_sr ?_ | refine wp_sx ?_ | refine wp_ret' ?_ | refine wp_skip' ?_ | refine wp_exit' ?_)
    exact ⟨rfl, to, cnt, ⟨hl, hb, by omega⟩, rfl⟩
  | succ m ih =>
    intro i cnt to hi hl hb hk
    have hi2 : i < n := by omega
    have hil : i < to.length := by omega
    obtain ⟨v, k, hv, hk2, e1⟩ := pick' code c0 hc cnt (by omega) (n : Int) (by omega) bs (Ms ++ [[[I n, L2 es c], [I 0, Z]]])
    have hv := hv (by omega)
    have hvn : v < n := by omega
    have hvl : v < to.length := by omega
    have w2 : IntKind.i64.wrap ((i : Int) + 1) = ((i + 1 : Nat) : Int) := wrapS (by omega)
    have hi3 := hb _ (List.getElem_mem hil)
    have hv3 := hb _ (List.getElem_mem hvl)
    have hn2 := ih (i + 1) k ((to.set i to[v]).set v to[i]) (by omega) (by simpa using hl) (fun x hx => by
      rcases List.mem_or_eq_of_mem_set hx with hx | rfl
      · rcases List.mem_or_eq_of_mem_set hx with hx | rfl
        · exact hb x hx
        · exact hv3
      · exact hi3) (by omega)
    refine wp_loop ?_
    repeat (first | apply wp_as | apply wp_ss | refine wr (by simp [hi2, hil, hvn, hvl, hl, e1, w2]; with_reducible rfl) ?_ | refine wq (by simp [hi2, hil, hvn, hvl, hl, e1, w2]; with_reducible rfl) ?_ | refine wt (by simpa [hi2, hil, hvn, hvl, hl, e1, w2]) ?_ | refine wf (by simpa [hi2, hil, hvn, hvl, hl, e1, w2]) ?_ | refine xt (by simpa [hi2, hil, hvn, hvl, hl, e1, w2]) ?_ | refine xf (by simpa [hi2, hil, hvn, hvl, hl, e1, w2]) ?_ | apply wp_bs | apply wp_b | refine wp_sr ?_ | refine wp_sx ?_ | refine wp_ret' ?_ | refine wp_skip' ?_ | refine wp_exit' ?_)
    refine wp_imp hn2 ?_
    rintro ex st ⟨rfl, to', k', ⟨h1, h2, h3⟩, rfl⟩
    exact ⟨rfl, to', k', ⟨h1, h2, by omega⟩, rfl⟩

theorem mv_ed (n : Nat) (hn : n ≤ 7) (es : List (Int × Int)) (c : Bool) (hes : EdgesIn n es) (hel : es.length ≤ 100) (to : List Int) (hl : to.length = n) (hb : ∀ x ∈ to, 0 ≤ x ∧ x < n) (M : List Boxes) (L : Nat) (hL : L = M.length) : ∀ (m i : Nat) (out : List (Int × Int)), i + m = es.length → out.length = i → EdgesIn n out →
    wp tb (.loop ic_spec_moved_l20) { T := [(3, .bptr L 0 0), (4, .bptr L 1 0), (5, O to), (10, .bptr L 2 0), (11, I i)], loc := [[I n, L2 es c], [I 0, Z], [I n, O2 out]], M := M }
      (fun ex st => ex = .exit 4 ∧ ∃ out : List (Int × Int), (out.length = es.length ∧ EdgesIn n out) ∧ st = { T := [(3, .bptr L 0 0), (4, .bptr L 1 0), (5, O to), (10, .bptr L 2 0), (11, I es.length), (56, Bo false)], loc := [[I n, L2 es c], [I 0, Z], [I n, O2 out]], M := M }) := by
  subst hL
  intro m
  induction m with
  | zero =>
    intro i out hi ho hin
    have h3 : i = es.length := hi
    subst h3
    refine wp_loop ?_
    repeat (first | apply wp_as | apply wp_ss | refine wr (by simp; with_reducible rfl) ?_ | refine wq (by simp; with_reducible rfl) ?_ | refine wt (by simpa) ?_ | refine wf (by simpa) ?_ | refine xt (by simpa) ?_ | refine xf (by simpa) ?_ | apply wp_bs | apply wp_b | refine wp_sr ?_ | refine wp_sx ?_ | refine wp_ret' ?_ | refine wp_skip' ?_ | refine wp_exit' ?_)
    exact ⟨rfl, out, ⟨ho, hin⟩, rfl⟩
  | succ m ih =>
    intro i out hi ho hin
    have hi2 : i < es.length := by omega
    have he := hes _ (List.getElem_mem hi2)
    obtain ⟨p, hp⟩ := Int.eq_ofNat_of_zero_le he.1
    obtain ⟨q, hq⟩ := Int.eq_ofNat_of_zero_le he.2.2.1
    have hpn : p < n := by omega
    have hqn : q < n := by omega
    have hpl : p < to.length := by omega
    have hql : q < to.length := by omega
    have w2 : IntKind.i64.wrap ((i : Int) + 1) = ((i + 1 : Nat) : Int) := wrapS (by omega)
    have e1 := fun cc => ev_lim (ev_addEdge n out cc to[p] to[q] (by omega))
    have hot : out.take out.length = out := List.take_of_length_le (Nat.le_refl _)
    have hn2 := ih (i + 1) (insE (min to[p] to[q], max to[p] to[q]) out) (by omega) (by rw [insE_len, ho]) (edgesIn_ins hin (hb _ (List.getElem_mem hpl)) (hb _ (List.getElem_mem hql)))
    refine wp_loop ?_
    repeat (first | apply wp_as | apply wp_ss | refine wr (by simp [hi2, hp, hq, hpn, hqn, hpl, hql, hl, w2, e1, hot]; with_reducible rfl) ?_ | refine wq (by simp [hi2, hp, hq, hpn, hqn, hpl, hql, hl, w2, e1, hot]; with_reducible rfl) ?_ | refine wt (by simpa [hi2, hp, hq, hpn, hqn, hpl, hql, hl, w2, e1, hot]) ?_ | refine wf (by simpa [hi2, hp, hq, hpn, hqn, hpl, hql, hl, w2, e1, hot]) ?_ | refine xt (by simpa [hi2, hp, hq, hpn, hqn, hpl, hql, hl, w2, e1, hot]) ?_ | refine xf (by simpa [hi2, hp, hq, hpn, hqn, hpl, hql, hl, w2, e1, hot]) ?_ | apply wp_bs | apply wp_b | refine wp_sr ?_ | refine wp_sx ?_ | refine wp_ret' ?_ | refine wp_skip' ?_ | refine wp_exit' ?_)
    exact hn2

theorem ev_moved (code : List Int) (c0 : Bool) (hc : CodeOk code) (cnt : Nat) (hcn : cnt ≤ 80000) (n : Nat) (hn : n ≤ 7) (es : List (Int × Int)) (c : Bool) (hes : EdgesIn n es) (hel : es.length ≤ 100) (bs : Boxes) (Ms : List Boxes) :
    ∃ (out : List (Int × Int)) (k : Nat), out.length = es.length ∧ EdgesIn n out ∧ k ≤ cnt + 10 ∧
      limF tb l_spec_moved [] [.bptr 0 0 0, Gr n es c] ((R code c0 cnt :: bs) :: Ms) = some ⟨OG n out, [], (R code c0 k :: bs) :: Ms, []⟩ := by
  suffices hh : ∃ r, (∃ (out : List (Int × Int)) (k : Nat), out.length = es.length ∧ EdgesIn n out ∧ k ≤ cnt + 10 ∧ r = ⟨OG n out, [], (R code c0 k :: bs) :: Ms, []⟩) ∧ Ev tb l_spec_moved [] [.bptr 0 0 0, Gr n es c] ((R code c0 cnt :: bs) :: Ms) r by
    obtain ⟨r, ⟨out, k, q1, q2, q3, rfl⟩, q4⟩ := hh
    exact ⟨out, k, q1, q2, q3, ev_lim q4⟩
  refine call_ex tb_spec_moved rfl ?_
  repeat (first | apply wp_as | apply wp_ss | refine wr (by simp; with_reducible rfl) ?_ | refine wq (by simp; with_reducible rfl) ?_ | refine wt (by simpa) ?_ | refine wf (by simpa) ?_ | refine xt (by simpa) ?_ | refine xf (by simpa) ?_ | apply wp_bs | apply wp_b | refine wp_sr ?_ | refine wp_sx ?_ | refine wp_ret' ?_ | refine wp_skip' ?_ | refine wp_exit' ?_)
  refine wp_imp (mv_to n hn es c (R code c0 cnt :: bs) Ms n 0 (by omega)) ?_
  rintro ex st ⟨rfl, rfl⟩
  simp only [if_true]
  repeat (first | apply wp_as | apply wp_ss | refine wr (by simp; with_reducible rfl) ?_ | refine wq (by simp; with_reducible rfl) ?_ | refine wt (by simpa) ?_ | refine wf (by simpa) ?_ | refine xt (by simpa) ?_ | refine xf (by simpa) ?_ | apply wp_bs | apply wp_b | refine wp_sr ?_ | refine wp_sx ?_ | refine wp_ret' ?_ | refine wp_skip' ?_ | refine wp_exit' ?_)
  refine wp_imp (mv_sw code c0 hc n hn es c bs Ms n 0 cnt (rI n) (by omega) (rI_len n) (fun x hx => mem_rI.1 hx) (by omega)) ?_
  rintro ex st ⟨rfl, to, k, ⟨h1, h2, h3⟩, rfl⟩
  simp only [if_true]
  repeat (first | apply wp_as | apply wp_ss | refine wr (by simp; with_reducible rfl) ?_ | refine wq (by simp; with_reducible rfl) ?_ | refine wt (by simpa) ?_ | refine wf (by simpa) ?_ | refine xt (by simpa) ?_ | refine xf (by simpa) ?_ | apply wp_bs | apply wp_b | refine wp_sr ?_ | refine wp_sx ?_ | refine wp_ret' ?_ | refine wp_skip' ?_ | refine wp_exit' ?_)
  refine wp_imp (mv_ed n hn es c hes hel to h1 h2 ((R code c0 k :: bs) :: Ms) (Ms.length + 1) (by simp) es.length 0 [] (by simp) rfl (fun e he => by simp at he)) ?_
  rintro ex st ⟨rfl, out, ⟨h4, h5⟩, rfl⟩
  simp only [if_true]
  have hot : out.take out.length = out := List.take_of_length_le (Nat.le_refl _)
  repeat (first | apply wp_as | apply wp_ss | refine wr (by simp [hot]; with_reducible rfl) ?_ | refine wq (by simp [hot]; with_reducible rfl) ?_ | refine wt (by simpa [hot]) ?_ | refine wf (by simpa [hot]) ?_ | refine xt (by simpa [hot]) ?_ | refine xf (by simpa [hot]) ?_ | apply wp_bs | apply wp_b | refine wp_sr ?_ | refine wp_sx ?_ | refine wp_ret' ?_ | refine wp_skip' ?_ | refine wp_exit' ?_)
  refine ⟨.inr rfl, _, ⟨out, k, h4, h5, by omega, rfl⟩, ?_⟩
  simp [if_spec_moved]

end Go.Idl

namespace Go.Idl

open Go

/-- A string. -/
abbrev Str (s : ByteArray) : IV := .sc (.string s)

def strs (l : List ByteArray) : List (List IV) := l.map fun s => [Str s]

@[simp] theorem strs_len (l : List ByteArray) : (strs l).length = l.length := by simp [strs]

@[simp] theorem strs_get (l : List ByteArray) (i : Nat) (h : i < (strs l).length) : (strs l)[i] = [IV.sc (.string (l[i]'(by simpa [strs] using h)))] := by simp [strs]

@[simp] theorem strs_get? (l : List ByteArray) (i : Nat) : (strs l)[i]? = l[i]?.map fun s => [IV.sc (.string s)] := by simp [strs]

theorem ev_of (code : List Int) (c : Bool) (hc : CodeOk code) (cnt : Nat) (hn : cnt ≤ 1000000) (l : List ByteArray) (cl : Bool) (hl : 0 < l.length ∧ l.length ≤ 1000) (bs : Boxes) (Ms : List Boxes) :
    ∃ (s : ByteArray) (k : Nat), s ∈ l ∧ k ≤ cnt + 1 ∧ limF tb l_spec_reader_of [] [.bptr 0 0 0, .lst 1 (strs l) cl] ((R code c cnt :: bs) :: Ms) = some ⟨Str s, [], (R code c k :: bs) :: Ms, []⟩ := by
  obtain ⟨v, k, hv, hk, e1⟩ := pick' code c hc cnt hn (l.length : Int) (by omega) bs (Ms ++ [[]])
  have hv := hv (by omega)
  have hvl : v < l.length := by omega
  refine ⟨l[v], k, List.getElem_mem hvl, hk, ev_lim ?_⟩
  refine call_of_wp tb_spec_reader_of rfl ?_
  repeat (first | apply wp_as | apply wp_ss | refine wr (by simp [e1, hvl]; with_reducible rfl) ?_ | refine wq (by simp [e1, hvl]; with_reducible rfl) ?_ | refine wt (by simpa [e1, hvl]) ?_ | refine wf (by simpa [e1, hvl]) ?_ | refine xt (by simpa [e1, hvl]) ?_ | refine xf (by simpa [e1, hvl]) ?_ | apply wp_bs | apply wp_b | refine wp_sr ?_ | refine wp_sx ?_ | refine wp_ret' ?_ | refine wp_skip' ?_ | refine wp_exit' ?_)
  simp [if_spec_reader_of]

theorem ac_loop (code : List Int) (c : Bool) (hc : CodeOk code) (bs : Boxes) (Ms : List Boxes) : ∀ (m : Nat) (cnt : Nat) (s : ByteArray), s.size + m ≤ 7 → 1 ≤ s.size → cnt + m ≤ 900000 →
    wp tb (.loop ic_spec_aCode_l6) { T := [(0, .bptr 0 0 0), (3, Str s), (4, I m)], loc := [], M := (R code c cnt :: bs) :: Ms }
      (fun ex st => ex = .exit 0 ∧ ∃ (s : ByteArray) (k : Nat), (1 ≤ s.size ∧ s.size ≤ 7 ∧ k ≤ cnt + m) ∧ st = { T := [(0, .bptr 0 0 0), (3, Str s), (4, I 0), (9, Bo false)], loc := [], M := (R code c k :: bs) :: Ms }) := by
  intro m
  induction m with
  | zero =>
    intro cnt s hs h1 hk
    refine wp_loop ?_
    repeat (first | apply wp_as | apply wp_ss | refine wr (by simp; with_reducible rfl) ?_ | refine wq (by simp; with_reducible rfl) ?_ | refine wt (by simpa) ?_ | refine wf (by simpa) ?_ | refine xt (by simpa) ?_ | refine xf (by simpa) ?_ | apply wp_bs | apply wp_b | refine wp_sr ?_ | refine wp_sx ?_ | refine wp_ret' ?_ | refine wp_skip' ?_ | refine wp_exit' ?_)
    exact ⟨rfl, s, cnt, ⟨h1, by omega, by omega⟩, rfl⟩
  | succ m ih =>
    intro cnt s hs h1 hk
    obtain ⟨t, k, ht, hk2, e1⟩ := ev_of code c hc cnt (by omega) [⟨#[105]⟩, ⟨#[100]⟩] false (by simp) bs (Ms ++ [[]])
    have hts : t.size = 1 := by
      simp only [List.mem_cons, List.not_mem_nil, or_false] at ht
      rcases ht with rfl | rfl <;> rfl
    have h2 : (0 : Int) < (m : Int) + 1 := by omega
    have w1 : IntKind.i64.wrap (m : Int) = (m : Int) := wrap64 (by omega) (by omega)
    have e1 : limF tb l_spec_reader_of [] [.bptr 0 0 0, .lst 1 [[Str ⟨#[105]⟩], [Str ⟨#[100]⟩]] false] ((R code c cnt :: bs) :: (Ms ++ [[]])) = some ⟨Str t, [], (R code c k :: bs) :: (Ms ++ [[]]), []⟩ := e1
    have hso : Op.stringOp .add s t = Sem.pure (.string (s ++ t)) := by
      have hno : ¬ (((s.size + t.size : Nat) : Int) > IntKind.i64.max) := by rw [show IntKind.i64.max = 9223372036854775807 from rfl]; omega
      unfold Op.stringOp
      simp only [if_neg hno]; rfl
    have hss : (s ++ t).size = s.size + 1 := by rw [ByteArray.size_append, hts]
    have hn2 := ih k (s ++ t) (by omega) (by omega) (by omega)
    refine wp_loop ?_
    repeat (first | apply wp_as | apply wp_ss | refine wr (by simp [h2, w1, e1, hso]; with_reducible rfl) ?_ | refine wq (by simp [h2, w1, e1, hso]; with_reducible rfl) ?_ | refine wt (by simpa [h2, w1, e1, hso]) ?_ | refine wf (by simpa [h2, w1, e1, hso]) ?_ | refine xt (by simpa [h2, w1, e1, hso]) ?_ | refine xf (by simpa [h2, w1, e1, hso]) ?_ | apply wp_bs | apply wp_b | refine wp_sr ?_ | refine wp_sx ?_ | refine wp_ret' ?_ | refine wp_skip' ?_ | refine wp_exit' ?_)
    refine wp_imp hn2 ?_
    rintro ex st ⟨rfl, s', k', ⟨g1, g2, g3⟩, rfl⟩
    exact ⟨rfl, s', k', ⟨g1, g2, by omega⟩, rfl⟩

theorem ev_aCode (code : List Int) (c : Bool) (hc : CodeOk code) (cnt : Nat) (hn : cnt ≤ 800000) (bs : Boxes) (Ms : List Boxes) :
    ∃ (s : ByteArray) (k : Nat), 1 ≤ s.size ∧ s.size ≤ 7 ∧ k ≤ cnt + 10 ∧ limF tb l_spec_aCode [] [.bptr 0 0 0] ((R code c cnt :: bs) :: Ms) = some ⟨Str s, [], (R code c k :: bs) :: Ms, []⟩ := by
  obtain ⟨x, k1, hx, hk1, e1⟩ := one2 code c hc cnt (by omega) [4, 3, 5, 2, 1, 0, 6] (by simp) bs (Ms ++ [[]])
  obtain ⟨m, rfl, hm⟩ : ∃ m : Nat, x = (m : Int) ∧ m ≤ 6 := by
    simp at hx
    exact ⟨x.toNat, by omega, by omega⟩
  suffices hh : ∃ r, (∃ (s : ByteArray) (k : Nat), 1 ≤ s.size ∧ s.size ≤ 7 ∧ k ≤ cnt + 10 ∧ r = ⟨Str s, [], (R code c k :: bs) :: Ms, []⟩) ∧ Ev tb l_spec_aCode [] [.bptr 0 0 0] ((R code c cnt :: bs) :: Ms) r by
    obtain ⟨r, ⟨s, k, q1, q2, q3, rfl⟩, q4⟩ := hh
    exact ⟨s, k, q1, q2, q3, ev_lim q4⟩
  refine call_ex tb_spec_aCode rfl ?_
  repeat (first | apply wp_as | apply wp_ss | refine wr (by simp [e1]; with_reducible rfl) ?_ | refine wq (by simp [e1]; with_reducible rfl) ?_ | refine wt (by simpa [e1]) ?_ | refine wf (by simpa [e1]) ?_ | refine xt (by simpa [e1]) ?_ | refine xf (by simpa [e1]) ?_ | apply wp_bs | apply wp_b | refine wp_sr ?_ | refine wp_sx ?_ | refine wp_ret' ?_ | refine wp_skip' ?_ | refine wp_exit' ?_)
  refine wp_imp (ac_loop code c hc bs Ms m k1 ⟨#[105]⟩ (by show 1 + m ≤ 7; omega) (by show 1 ≤ 1; omega) (by omega)) ?_
  rintro ex st ⟨rfl, s, k, ⟨q1, q2, q3⟩, rfl⟩
  simp only [if_true]
  repeat (first | apply wp_as | apply wp_ss | refine wr (by simp; with_reducible rfl) ?_ | refine wq (by simp; with_reducible rfl) ?_ | refine wt (by simpa) ?_ | refine wf (by simpa) ?_ | refine xt (by simpa) ?_ | refine xf (by simpa) ?_ | apply wp_bs | apply wp_b | refine wp_sr ?_ | refine wp_sx ?_ | refine wp_ret' ?_ | refine wp_skip' ?_ | refine wp_exit' ?_)
  refine ⟨.inr rfl, _, ⟨s, k, q1, q2, by omega, rfl⟩, ?_⟩
  simp [if_spec_aCode]

/-- The edges that a code tells of. -/
def cgE (s : ByteArray) : List (Int × Int) := (prs s.size).filter fun e => match s[e.2.toNat]? with | some b => decide (b.toNat = 100) | none => false

theorem cg_loop (s : ByteArray) (hs : s.size ≤ 7) (P : List (Int × Int)) (hP : P = prs s.size) (hPl : P.length ≤ 100) : ∀ (m i : Nat) (acc : List (Int × Int)), i + m = P.length → acc.length ≤ i →
    wp tb (.loop ic_spec_codeGraph_l8) { T := [(0, Str s), (2, .bptr 0 0 0), (3, .bptr 0 1 0), (4, O2 P), (5, I i)], loc := [[I 0, Z], [I s.size, O2 acc]], M := [] }
      (fun ex st => ex = .exit 0 ∧ st = { T := [(0, Str s), (2, .bptr 0 0 0), (3, .bptr 0 1 0), (4, O2 P), (5, I P.length), (16, Bo false)], loc := [[I 0, Z], [I s.size, O2 (acc ++ (P.drop i).filter fun e => match s[e.2.toNat]? with | some b => decide (b.toNat = 100) | none => false)]], M := [] }) := by
  intro m
  induction m with
  | zero =>
    intro i acc hi ha
    have h3 : i = P.length := hi
    subst h3
    refine wp_loop ?_
    repeat (first | apply wp_as | apply wp_ss | refine wr (by simp; with_reducible rfl) ?_ | refine wq (by simp; with_reducible rfl) ?_ | refine wt (by simpa) ?_ | refine wf (by simpa) ?_ | refine xt (by simpa) ?_ | refine xf (by simpa) ?_ | apply wp_bs | apply wp_b | refine wp_sr ?_ | refine wp_sx ?_ | refine wp_ret' ?_ | refine wp_skip' ?_ | refine wp_exit' ?_)
    exact ⟨rfl, by simp⟩
  | succ m ih =>
    intro i acc hi ha
    have hi2 : i < P.length := by omega
    have w1 : IntKind.i64.wrap ((i : Int) + 1) = ((i + 1 : Nat) : Int) := wrapS (by omega)
    have hd : P.drop i = P[i] :: P.drop (i + 1) := List.drop_eq_getElem_cons hi2
    have he := List.getElem_mem hi2
    rw [hd]
    obtain ⟨⟨x, y⟩, hx⟩ : ∃ e, e = P[i] := ⟨_, rfl⟩
    rw [← hx] at he ⊢
    have hx2 := hx.symm
    have hb := mem_prs.1 (hP ▸ he)
    obtain ⟨b, rfl⟩ := Int.eq_ofNat_of_zero_le (show 0 ≤ y by simp only at hb; omega)
    simp only at hb
    have hbl : b < s.size := by omega
    have hsb : s[b]? = some s[b] := by simp [hbl]
    have hl1 : acc.length + 1 ≤ 274877906944 := by omega
    have hl2 : acc.length ≤ 274877906943 := by omega
    have hT : ∀ x, List.take (acc.length + 1) (acc ++ [x]) = acc ++ [x] := fun x => List.take_of_length_le (by simp)
    have hT2 : List.take acc.length acc = acc := List.take_of_length_le (Nat.le_refl _)
    by_cases hq : s[b].toNat = 100
    · have hq2 : ((s[b].toNat : Nat) : Int) = 100 := by omega
      have hn := ih (i + 1) (acc ++ [(x, (b : Int))]) (by omega) (by simp; omega)
      rw [List.filter_cons_of_pos (by simp [hsb, hq])]
      simp only [List.append_assoc, List.cons_append, List.nil_append] at hn
      refine wp_loop ?_
      repeat (first | apply wp_as | apply wp_ss | refine wr (by simp [hi2, hx2, hsb, hbl, hq, hq2, w1]; with_reducible rfl) ?_ | refine wq (by simp [hi2, hx2, hsb, hbl, hq, hq2, w1]; with_reducible rfl) ?_ | refine wt (by simpa [hi2, hx2, hsb, hbl, hq, hq2, w1]) ?_ | refine wf (by simpa [hi2, hx2, hsb, hbl, hq, hq2, w1]) ?_ | refine xt (by simpa [hi2, hx2, hsb, hbl, hq, hq2, w1]) ?_ | refine xf (by simpa [hi2, hx2, hsb, hbl, hq, hq2, w1]) ?_ | apply wp_bs | apply wp_b | refine wp_sr ?_ | refine wp_sx ?_ | refine wp_ret' ?_ | refine wp_skip' ?_ | refine wp_exit' ?_)
      refine wp_ra (by simp [hi2, hx2, hl1, hl2, hT, hT2]; with_reducible rfl) (by simp; with_reducible rfl) ?_ ?_
      · intro p hp
        simp only [List.mem_cons, List.not_mem_nil, or_false] at hp
        subst hp
        exact ⟨_, by simp [hi2, hx2, hl1, hl2, hT, hT2]; with_reducible rfl, by simp⟩
      repeat (first | apply wp_as | apply wp_ss | refine wr (by simp [w1]; with_reducible rfl) ?_ | refine wq (by simp [w1]; with_reducible rfl) ?_ | refine wt (by simpa [w1]) ?_ | refine wf (by simpa [w1]) ?_ | refine xt (by simpa [w1]) ?_ | refine xf (by simpa [w1]) ?_ | apply wp_bs | apply wp_b | refine wp_sr ?_ | refine wp_sx ?_ | refine wp_ret' ?_ | refine wp_skip' ?_ | refine wp_exit' ?_)
      exact hn
    · have hq2 : ¬ ((s[b].toNat : Nat) : Int) = 100 := by omega
      have hn := ih (i + 1) acc (by omega) (by omega)
      rw [List.filter_cons_of_neg (by simp [hsb, hq])]
      refine wp_loop ?_
      repeat (first | apply wp_as | apply wp_ss | refine wr (by simp [hi2, hx2, hsb, hbl, hq, hq2, w1]; with_reducible rfl) ?_ | refine wq (by simp [hi2, hx2, hsb, hbl, hq, hq2, w1]; with_reducible rfl) ?_ | refine wt (by simpa [hi2, hx2, hsb, hbl, hq, hq2, w1]) ?_ | refine wf (by simpa [hi2, hx2, hsb, hbl, hq, hq2, w1]) ?_ | refine xt (by simpa [hi2, hx2, hsb, hbl, hq, hq2, w1]) ?_ | refine xf (by simpa [hi2, hx2, hsb, hbl, hq, hq2, w1]) ?_ | apply wp_bs | apply wp_b | refine wp_sr ?_ | refine wp_sx ?_ | refine wp_ret' ?_ | refine wp_skip' ?_ | refine wp_exit' ?_)
      exact hn

theorem ev_codeGraph (s : ByteArray) (hs : s.size ≤ 7) : Ev tb l_spec_codeGraph [] [Str s] [] ⟨OG s.size (cgE s), [], [], []⟩ := by
  have h2 : ∀ n, n ≤ 7 → (prs n).length ≤ 21 := by decide +kernel
  have hpl := h2 _ hs
  have e1 := ev_lim (ev_pairs s.size (by omega))
  have loop := cg_loop s hs (prs s.size) rfl (by omega) (prs s.size).length 0 [] (by omega) (by simp)
  rw [cgE]
  generalize prs s.size = P at *
  refine call_of_wp tb_spec_codeGraph rfl ?_
  repeat (first | apply wp_as | apply wp_ss | refine wr (by simp [e1]; with_reducible rfl) ?_ | refine wq (by simp [e1]; with_reducible rfl) ?_ | refine wt (by simpa [e1]) ?_ | refine wf (by simpa [e1]) ?_ | refine xt (by simpa [e1]) ?_ | refine xf (by simpa [e1]) ?_ | apply wp_bs | apply wp_b | refine wp_sr ?_ | refine wp_sx ?_ | refine wp_ret' ?_ | refine wp_skip' ?_ | refine wp_exit' ?_)
  refine wp_imp loop ?_
  rintro ex st ⟨rfl, rfl⟩
  simp only [if_true, List.nil_append, List.drop_zero]
  repeat (first | apply wp_as | apply wp_ss | refine wr (by simp; with_reducible rfl) ?_ | refine wq (by simp; with_reducible rfl) ?_ | refine wt (by simpa) ?_ | refine wf (by simpa) ?_ | refine xt (by simpa) ?_ | refine xf (by simpa) ?_ | apply wp_bs | apply wp_b | refine wp_sr ?_ | refine wp_sx ?_ | refine wp_ret' ?_ | refine wp_skip' ?_ | refine wp_exit' ?_)
  simp [if_spec_codeGraph]

end Go.Idl

namespace Go.Idl

open Go

def decAt (o : List Int) (i : Nat) : List Int := o.set i (o.getD i 0 - 1)

/-- All sublists of edges with degrees, those with the first edge first. -/
def subs : List (Int × Int) → List Int → List (Int × Int) → List (List (Int × Int))
  | [], left, chosen => if left.all (fun x => decide (x = 0)) then [chosen] else []
  | e :: r, left, chosen =>
    (if 0 < left.getD e.1.toNat 0 ∧ 0 < left.getD e.2.toNat 0 then subs r (decAt (decAt left e.1.toNat) e.2.toNat) (chosen ++ [e]) else []) ++ subs r left chosen

/-- Those up to the first one at which the caller says no, and whether it never did. -/
def upTo (more : List (Int × Int) → Bool) : List (List (Int × Int)) → List (List (Int × Int)) × Bool
  | [] => ([], true)
  | g :: r => if more g then (g :: (upTo more r).1, (upTo more r).2) else ([g], false)

theorem upTo_app (more) (a b : List (List (Int × Int))) : upTo more (a ++ b) = if (upTo more a).2 then ((upTo more a).1 ++ (upTo more b).1, (upTo more b).2) else upTo more a := by
  induction a with
  | nil => simp [upTo]
  | cons g r ih =>
    simp only [List.cons_append, upTo, ih]
    by_cases hm : more g = true
    · simp only [if_pos hm]
      by_cases hq : (upTo more r).2 = true <;> simp [hq]
    · simp only [if_neg hm]; simp

/-- A list of edges, as none or as a slice of its own. -/
def EdRep (x : IV) (es : List (Int × Int)) : Prop := x = O2 es ∨ (es = [] ∧ x = Z)

theorem ev_Clone2 (e0 : Nat) (es : List (Int × Int)) (c : Bool) (he0 : e0 = 2 ∨ es = []) (hl : es.length ≤ 1000000) : Ev tb l_slices_Clone_Simpl_Edge_impl_Edge_ [] [.lst e0 (eds es) c] [] ⟨O2 es, [], [], []⟩ := by
  rcases he0 with rfl | rfl
  · refine call_of_wp tb_slices_Clone_Simpl_Edge_impl_Edge_ rfl ?_
    refine wp_rs (by simp; rfl) (by simp; rfl) ?_
    refine wp_nil2 (b := es.isEmpty) (by simp [ic_slices_Clone_Simpl_Edge_impl_Edge__r1]; rfl) (by simp) ?_ ?_ ?_ (ex := .ret) (st' := { T := [(2, .own 2 (eds es))], loc := [], M := [] })
    · refine wp_ct (t := false) (by simp) (by simp) fun _ => wp_ss ?_
      refine wp_rs (by simp [show es.length ≤ 274877906944 by omega]; rfl) (by simp; rfl) ?_
      refine wp_ret' ?_
      simp
    · intro he
      have : es = [] := by simpa using he
      subst this
      refine wp_ct (t := true) (by simp) (fun _ => wp_as ?_) (by simp)
      refine wp_rs (by simp; rfl) (by simp; rfl) ?_
      refine wp_sr ?_
      simp
    · simp [if_slices_Clone_Simpl_Edge_impl_Edge_]
  · refine call_of_wp tb_slices_Clone_Simpl_Edge_impl_Edge_ rfl ?_
    refine wp_rs (by simp; rfl) (by simp; rfl) ?_
    refine wp_nil2 (b := ([] : List (Int × Int)).isEmpty) (by simp [ic_slices_Clone_Simpl_Edge_impl_Edge__r1]; rfl) (by simp) ?_ ?_ ?_ (ex := .ret) (st' := { T := [(2, .own 2 (eds ([] : List (Int × Int))))], loc := [], M := [] })
    · refine wp_ct (t := false) (by simp) (by simp) fun _ => wp_ss ?_
      refine wp_rs (by simp; rfl) (by simp; rfl) ?_
      refine wp_ret' ?_
      simp
    · intro he
      refine wp_ct (t := true) (by simp) (fun _ => wp_as ?_) (by simp)
      refine wp_rs (by simp; rfl) (by simp; rfl) ?_
      refine wp_sr ?_
      simp
    · simp [if_slices_Clone_Simpl_Edge_impl_Edge_]

theorem ev_clone2 (e0 : Nat) (es : List (Int × Int)) (c : Bool) (he0 : e0 = 2 ∨ es = []) (hl : es.length ≤ 1000000) : Ev tb l_impl_clone_impl_Edge_ [] [.lst e0 (eds es) c] [] ⟨O2 es, [], [], []⟩ := by
  have e1 := ev_lim (ev_Clone2 e0 es c he0 hl)
  have e2 := ev_lim (ev_Clip2 es)
  refine call_of_wp tb_impl_clone_impl_Edge_ rfl ?_
  repeat (first | apply wp_as | apply wp_ss | refine wr (by simp [e1, e2]; with_reducible rfl) ?_ | refine wq (by simp [e1, e2]; with_reducible rfl) ?_ | refine wt (by simpa [e1, e2]) ?_ | refine wf (by simpa [e1, e2]) ?_ | refine xt (by simpa [e1, e2]) ?_ | refine xf (by simpa [e1, e2]) ?_ | apply wp_bs | apply wp_b | refine wp_sr ?_ | refine wp_sx ?_ | refine wp_ret' ?_ | refine wp_skip' ?_ | refine wp_exit' ?_)
  simp [if_impl_clone_impl_Edge_]

end Go.Idl

namespace Go.Idl

open Go

def capsW : List IV := [.bptr 1 1 0, .bptr 1 3 0, .bptr 1 2 0, .bptr 1 0 0, .bptr 1 4 0, .bptr 1 5 0]

/-- The boxes of the search. -/
def boxW (n : Int) (e0 : Nat) (from_ : List (Int × Int)) (c : Bool) (F : Lab) (caps : List IV) (left : List Int) (ch : IV) : Boxes :=
  [[I n], [.lst e0 (eds from_) c], [.fn F caps], [O left], [ch], [.fn l_impl_subgraphs_F1 capsW]]

/-- What a function that is called with the graphs does to the boxes below. -/
def CallsBack (n : Int) (F : Lab) (caps : List IV) (more : List (Int × Int) → Bool) (P : List (List (Int × Int)) → Boxes → Prop) : Prop :=
  ∀ gl bs es, P gl bs → gl.length ≤ 10000000 → es.length ≤ 1000 → ∃ bs', P (gl ++ [es]) bs' ∧ ∀ B Es, Ev tb F [] (.agg [I n, O2 es] :: caps) (bs :: B :: Es) ⟨Bo (more es), [], bs' :: B :: Es, []⟩

theorem sg_end (n : Int) (e0 : Nat) (from_ : List (Int × Int)) (c : Bool) (F : Lab) (caps : List IV) (more : List (Int × Int) → Bool) (P : List (List (Int × Int)) → Boxes → Prop) (hcb : CallsBack n F caps more P) (N : Nat)
    (hN : N ≤ 1000) (hfl : from_.length ≤ 900) (left : List Int) (ch : IV) (chosen : List (Int × Int)) (gl : List (List (Int × Int))) (bs : Boxes) (Es : List Boxes) (hP : P gl bs) (hgl : gl.length ≤ 10000000) (hch : EdRep ch chosen)
    (hl : left.length = N) (hcl : chosen.length ≤ 950) :
    ∃ ch' bs', EdRep ch' chosen ∧ P (gl ++ (upTo more (subs [] left chosen)).1) bs' ∧
      Ev tb l_impl_subgraphs_F1 [] (I from_.length :: capsW) (bs :: boxW n e0 from_ c F caps left ch :: Es) ⟨Bo (upTo more (subs [] left chosen)).2, [], bs' :: boxW n e0 from_ c F caps left ch' :: Es, []⟩ := by
  have e1 := fun cc => ev_lim (ev_allIn left cc 0 0 (by omega))
  have hz0 : (left.all fun x => decide (0 ≤ x) && decide (x ≤ 0)) = left.all fun x => decide (x = 0) := by
    congr 1; funext x; rw [Bool.eq_iff_iff]; simp; omega
  rw [hz0] at e1
  have hlt : left.take N = left := List.take_of_length_le (by omega)
  unfold subs
  cases hz : left.all (fun x => decide (x = 0)) with
  | false =>
    rw [hz] at e1
    simp only [Bool.false_eq_true, if_false]
    refine ⟨ch, bs, hch, by simpa [upTo] using hP, ?_⟩
    simp only [upTo, boxW, capsW]
    refine call_of_wp tb_impl_subgraphs_F1 rfl ?_
    repeat (first | apply wp_as | apply wp_ss | refine wr (by simp [e1, hl, hlt]; with_reducible rfl) ?_ | refine wq (by simp [e1, hl, hlt]; with_reducible rfl) ?_ | refine wt (by simpa [e1, hl, hlt]) ?_ | refine wf (by simpa [e1, hl, hlt]) ?_ | refine xt (by simpa [e1, hl, hlt]) ?_ | refine xf (by simpa [e1, hl, hlt]) ?_ | apply wp_bs | apply wp_b | refine wp_sr ?_ | refine wp_sx ?_ | refine wp_ret' ?_ | refine wp_skip' ?_ | refine wp_exit' ?_)
    refine wp_ra (by simp [e1, hl, hlt]; with_reducible rfl) (by simp; with_reducible rfl) ?_ ?_
    · intro p hp
      simp only [List.mem_cons, List.not_mem_nil, or_false] at hp
      rcases hp with rfl | rfl | rfl | rfl | rfl
      · exact ⟨_, by simp [e1, hl, hlt]; with_reducible rfl, by simp⟩
      · exact ⟨_, by simp [e1, hl, hlt]; with_reducible rfl, by simp⟩
      · exact ⟨_, by simp [e1, hl, hlt]; with_reducible rfl, by simp⟩
      · exact ⟨_, by simp [e1, hl, hlt]; with_reducible rfl, by simp⟩
      · exact ⟨_, by simp [e1, hl, hlt]; with_reducible rfl, by simp⟩
    repeat (first | apply wp_as | apply wp_ss | refine wr (by simp; with_reducible rfl) ?_ | refine wq (by simp; with_reducible rfl) ?_ | refine wt (by simpa) ?_ | refine wf (by simpa) ?_ | refine xt (by simpa) ?_ | refine xf (by simpa) ?_ | apply wp_bs | apply wp_b | refine wp_sr ?_ | refine wp_sx ?_ | refine wp_ret' ?_ | refine wp_skip' ?_ | refine wp_exit' ?_)
    simp [if_impl_subgraphs_F1]
  | true =>
    rw [hz] at e1
    obtain ⟨bs', hP', hF⟩ := hcb gl bs chosen hP hgl (by omega)
    simp only [if_true]
    have hu : upTo more [chosen] = ([chosen], more chosen) := by simp only [upTo]; cases more chosen <;> rfl
    rw [hu]
    refine ⟨ch, bs', hch, hP', ?_⟩
    have e2 := fun B Es => ev_lim (hF B Es)
    have hct : chosen.take chosen.length = chosen := List.take_of_length_le (Nat.le_refl _)
    generalize more chosen = b at *
    rcases hch with rfl | ⟨rfl, rfl⟩
    · have e3 := fun cc => ev_lim (ev_clone2 2 chosen cc (.inl rfl) (by omega))
      simp only [boxW, capsW] at e2 ⊢
      refine call_of_wp tb_impl_subgraphs_F1 rfl ?_
      repeat (first | apply wp_as | apply wp_ss | refine wr (by simp [e1, hl, hlt]; with_reducible rfl) ?_ | refine wq (by simp [e1, hl, hlt]; with_reducible rfl) ?_ | refine wt (by simpa [e1, hl, hlt]) ?_ | refine wf (by simpa [e1, hl, hlt]) ?_ | refine xt (by simpa [e1, hl, hlt]) ?_ | refine xf (by simpa [e1, hl, hlt]) ?_ | apply wp_bs | apply wp_b | refine wp_sr ?_ | refine wp_sx ?_ | refine wp_ret' ?_ | refine wp_skip' ?_ | refine wp_exit' ?_)
      refine wp_ra (by simp [e1, e2, e3, hl, hlt, hct]; with_reducible rfl) (by simp; with_reducible rfl) ?_ ?_
      · intro p hp
        simp only [List.mem_cons, List.not_mem_nil, or_false] at hp
        rcases hp with rfl | rfl | rfl | rfl | rfl
        · exact ⟨_, by simp [e1, e2, e3, hl, hlt, hct]; with_reducible rfl, by simp⟩
        · exact ⟨_, by simp [e1, e2, e3, hl, hlt, hct]; with_reducible rfl, by simp⟩
        · exact ⟨_, by simp [e1, e2, e3, hl, hlt, hct]; with_reducible rfl, by simp⟩
        · exact ⟨_, by simp [e1, e2, e3, hl, hlt, hct]; with_reducible rfl, by simp⟩
        · exact ⟨_, by simp [e1, e2, e3, hl, hlt, hct]; with_reducible rfl, by simp⟩
      repeat (first | apply wp_as | apply wp_ss | refine wr (by simp; with_reducible rfl) ?_ | refine wq (by simp; with_reducible rfl) ?_ | refine wt (by simpa) ?_ | refine wf (by simpa) ?_ | refine xt (by simpa) ?_ | refine xf (by simpa) ?_ | apply wp_bs | apply wp_b | refine wp_sr ?_ | refine wp_sx ?_ | refine wp_ret' ?_ | refine wp_skip' ?_ | refine wp_exit' ?_)
      simp [if_impl_subgraphs_F1]
    · have e3 := ev_lim (show Ev tb l_impl_clone_impl_Edge_ [] [Z] [] ⟨O2 [], [], [], []⟩ from ev_clone2 0 [] true (.inr rfl) (by simp))
      simp only [boxW, capsW] at e2 ⊢
      refine call_of_wp tb_impl_subgraphs_F1 rfl ?_
      repeat (first | apply wp_as | apply wp_ss | refine wr (by simp [e1, hl, hlt]; with_reducible rfl) ?_ | refine wq (by simp [e1, hl, hlt]; with_reducible rfl) ?_ | refine wt (by simpa [e1, hl, hlt]) ?_ | refine wf (by simpa [e1, hl, hlt]) ?_ | refine xt (by simpa [e1, hl, hlt]) ?_ | refine xf (by simpa [e1, hl, hlt]) ?_ | apply wp_bs | apply wp_b | refine wp_sr ?_ | refine wp_sx ?_ | refine wp_ret' ?_ | refine wp_skip' ?_ | refine wp_exit' ?_)
      refine wp_ra (by simp [e1, e2, e3, hl, hlt, hct]; with_reducible rfl) (by simp; with_reducible rfl) ?_ ?_
      · intro p hp
        simp only [List.mem_cons, List.not_mem_nil, or_false] at hp
        rcases hp with rfl | rfl | rfl | rfl | rfl
        · exact ⟨_, by simp [e1, e2, e3, hl, hlt, hct]; with_reducible rfl, by simp⟩
        · exact ⟨_, by simp [e1, e2, e3, hl, hlt, hct]; with_reducible rfl, by simp⟩
        · exact ⟨_, by simp [e1, e2, e3, hl, hlt, hct]; with_reducible rfl, by simp⟩
        · exact ⟨_, by simp [e1, e2, e3, hl, hlt, hct]; with_reducible rfl, by simp⟩
        · exact ⟨_, by simp [e1, e2, e3, hl, hlt, hct]; with_reducible rfl, by simp⟩
      repeat (first | apply wp_as | apply wp_ss | refine wr (by simp; with_reducible rfl) ?_ | refine wq (by simp; with_reducible rfl) ?_ | refine wt (by simpa) ?_ | refine wf (by simpa) ?_ | refine xt (by simpa) ?_ | refine xf (by simpa) ?_ | apply wp_bs | apply wp_b | refine wp_sr ?_ | refine wp_sx ?_ | refine wp_ret' ?_ | refine wp_skip' ?_ | refine wp_exit' ?_)
      simp [if_impl_subgraphs_F1]

end Go.Idl

namespace Go.Idl

open Go

set_option maxHeartbeats 2000000 in
theorem sg_skip (n : Int) (from_ : List (Int × Int)) (c : Bool) (F : Lab) (caps : List IV) (i p q N : Nat) (hi2 : i < from_.length) (hfl : from_.length ≤ 900) (hp : from_[i].1 = p) (hq : from_[i].2 = q) (left : List Int) (hl : left.length = N) (hpN : p < N) (hqN : q < N)
    (hpos : ¬ (0 < left[p] ∧ 0 < left[q])) (ch ch' : IV) (bs bs' : Boxes) (Es : List Boxes) (b : Bool)
    (e1 : Ev tb l_impl_subgraphs_F1 [] (I ((i + 1 : Nat) : Int) :: capsW) (bs :: boxW n 2 from_ c F caps left ch :: (Es ++ [[[I p, I q]]])) ⟨Bo b, [], bs' :: boxW n 2 from_ c F caps left ch' :: (Es ++ [[[I p, I q]]]), []⟩) :
    Ev tb l_impl_subgraphs_F1 [] (I i :: capsW) (bs :: boxW n 2 from_ c F caps left ch :: Es) ⟨Bo b, [], bs' :: boxW n 2 from_ c F caps left ch' :: Es, []⟩ := by
  have hpl : p < left.length := by omega
  have hql : q < left.length := by omega
  have hie : ¬ (i : Int) = from_.length := by omega
  have w2 : IntKind.i64.wrap ((i : Int) + 1) = (i : Int) + 1 := wrap64 (by omega) (by omega)
  have e1 := ev_lim e1
  rw [show ((i + 1 : Nat) : Int) = (i : Int) + 1 by omega] at e1
  simp only [boxW, capsW] at e1 ⊢
  by_cases hp0 : 0 < left[p]
  · have hq0 : ¬ 0 < left[q] := fun h => hpos ⟨hp0, h⟩
    refine call_of_wp tb_impl_subgraphs_F1 rfl ?_
    repeat (first | apply wp_as | apply wp_ss | refine wr (by simp [hi2, hie, hp, hq, hpl, hql, hp0, hq0, w2, e1, hl, hpN, hqN]; with_reducible rfl) ?_ | refine wq (by simp [hi2, hie, hp, hq, hpl, hql, hp0, hq0, w2, e1, hl, hpN, hqN]; with_reducible rfl) ?_ | refine wt (by simpa [hi2, hie, hp, hq, hpl, hql, hp0, hq0, w2, e1, hl, hpN, hqN]) ?_ | refine wf (by simpa [hi2, hie, hp, hq, hpl, hql, hp0, hq0, w2, e1, hl, hpN, hqN]) ?_ | refine xt (by simpa [hi2, hie, hp, hq, hpl, hql, hp0, hq0, w2, e1, hl, hpN, hqN]) ?_ | refine xf (by simpa [hi2, hie, hp, hq, hpl, hql, hp0, hq0, w2, e1, hl, hpN, hqN]) ?_ | apply wp_bs | apply wp_b | refine wp_sr ?_ | refine wp_sx ?_ | refine wp_ret' ?_ | refine wp_skip' ?_ | refine wp_exit' ?_)
    simp [if_impl_subgraphs_F1]
  · refine call_of_wp tb_impl_subgraphs_F1 rfl ?_
    repeat (first | apply wp_as | apply wp_ss | refine wr (by simp [hi2, hie, hp, hq, hpl, hql, hp0, w2, e1, hl, hpN, hqN]; with_reducible rfl) ?_ | refine wq (by simp [hi2, hie, hp, hq, hpl, hql, hp0, w2, e1, hl, hpN, hqN]; with_reducible rfl) ?_ | refine wt (by simpa [hi2, hie, hp, hq, hpl, hql, hp0, w2, e1, hl, hpN, hqN]) ?_ | refine wf (by simpa [hi2, hie, hp, hq, hpl, hql, hp0, w2, e1, hl, hpN, hqN]) ?_ | refine xt (by simpa [hi2, hie, hp, hq, hpl, hql, hp0, w2, e1, hl, hpN, hqN]) ?_ | refine xf (by simpa [hi2, hie, hp, hq, hpl, hql, hp0, w2, e1, hl, hpN, hqN]) ?_ | apply wp_bs | apply wp_b | refine wp_sr ?_ | refine wp_sx ?_ | refine wp_ret' ?_ | refine wp_skip' ?_ | refine wp_exit' ?_)
    simp [if_impl_subgraphs_F1]

/-- The lists of numbers on the way: one less at p, then at q, and back. -/
structure Dec (left l1 l2 l3 : List Int) (p q : Nat) (hp : p < left.length) (hq : q < left.length) : Prop where
  e1 : left.set p (left[p] - 1) = l1
  n1 : l1.length = left.length
  g1 : ∀ h : q < l1.length, l1[q] = left[q]
  e2 : l1.set q (left[q] - 1) = l2
  n2 : l2.length = left.length
  g2 : ∀ h : p < l2.length, l2[p] = left[p] - 1
  e3 : l2.set p (left[p]) = l3
  n3 : l3.length = left.length
  g3 : ∀ h : q < l3.length, l3[q] = left[q] - 1
  e4 : l3.set q (left[q]) = left

set_option maxHeartbeats 2000000 in
theorem sg_take (n : Int) (from_ : List (Int × Int)) (c : Bool) (F : Lab) (caps : List IV) (i p q N : Nat) (hi2 : i < from_.length) (hfl : from_.length ≤ 900) (hp : from_[i].1 = p) (hq : from_[i].2 = q) (left l1 l2 l3 : List Int) (hl : left.length = N) (hpN : p < N) (hqN : q < N)
    (hpl : p < left.length) (hql : q < left.length) (hD : Dec left l1 l2 l3 p q hpl hql) (bp : left[p] ≤ 1000) (bq : left[q] ≤ 1000)
    (hp0 : 0 < left[p]) (hq0 : 0 < left[q]) (ch ch' : IV) (chosen : List (Int × Int)) (hch : EdRep ch chosen) (hcl : chosen.length ≤ 950) (bs bs1 bs' : Boxes) (Es : List Boxes) (b1 b : Bool)
    (e1 : Ev tb l_impl_subgraphs_F1 [] (I ((i + 1 : Nat) : Int) :: capsW) (bs :: boxW n 2 from_ c F caps l2 (O2 (chosen ++ [((p : Int), (q : Int))])) :: (Es ++ [[[I p, I q]]])) ⟨Bo b1, [], bs1 :: boxW n 2 from_ c F caps l2 (O2 (chosen ++ [((p : Int), (q : Int))])) :: (Es ++ [[[I p, I q]]]), []⟩)
    (e2 : b1 = true → Ev tb l_impl_subgraphs_F1 [] (I ((i + 1 : Nat) : Int) :: capsW) (bs1 :: boxW n 2 from_ c F caps left (O2 chosen) :: (Es ++ [[[I p, I q]]])) ⟨Bo b, [], bs' :: boxW n 2 from_ c F caps left ch' :: (Es ++ [[[I p, I q]]]), []⟩)
    (e3 : b1 = false → b = false ∧ bs' = bs1 ∧ ch' = O2 chosen) :
    Ev tb l_impl_subgraphs_F1 [] (I i :: capsW) (bs :: boxW n 2 from_ c F caps left ch :: Es) ⟨Bo b, [], bs' :: boxW n 2 from_ c F caps left ch' :: Es, []⟩ := by
  obtain ⟨d1, n1, g1, d2, n2, g2, d3, n3, g3, d4⟩ := hD
  have hie : ¬ (i : Int) = from_.length := by omega
  have w2 : IntKind.i64.wrap ((i : Int) + 1) = (i : Int) + 1 := wrap64 (by omega) (by omega)
  have w3 : IntKind.i64.wrap (left[p] - 1) = left[p] - 1 := wrap64 (by omega) (by omega)
  have w4 : IntKind.i64.wrap (left[q] - 1) = left[q] - 1 := wrap64 (by omega) (by omega)
  have w5 : IntKind.i64.wrap left[p] = left[p] := wrap64 (by omega) (by omega)
  have w6 : IntKind.i64.wrap left[q] = left[q] := wrap64 (by omega) (by omega)
  have w7 : IntKind.i64.wrap (chosen.length : Int) = (chosen.length : Int) := wrap64 (by omega) (by omega)
  have e1 := ev_lim e1
  rw [show ((i + 1 : Nat) : Int) = (i : Int) + 1 by omega] at e1
  rw [hl] at n1 n2 n3
  have hcl1 : chosen.length + 1 ≤ 274877906944 := by omega
  have hct : (chosen ++ [((p : Int), (q : Int))]).take chosen.length = chosen := by simp
  simp only [boxW, capsW] at e1 ⊢
  cases b1 with
  | false =>
    obtain ⟨rfl, rfl, rfl⟩ := e3 rfl
    rcases hch with rfl | ⟨rfl, rfl⟩
    · refine call_of_wp tb_impl_subgraphs_F1 rfl ?_
      repeat (first | apply wp_as | apply wp_ss | refine wr (by simp [hi2, hie, hp, hq, hp0, hq0, w2, hl, hpN, hqN, hpl, hql, w3, w4, w5, w6, d1, n1, g1, d2, n2, g2, d3, n3, g3, d4, e1, hcl1, hct, w7, show IntKind.i64.wrap 0 = 0 from rfl]; with_reducible rfl) ?_ | refine wq (by simp [hi2, hie, hp, hq, hp0, hq0, w2, hl, hpN, hqN, hpl, hql, w3, w4, w5, w6, d1, n1, g1, d2, n2, g2, d3, n3, g3, d4, e1, hcl1, hct, w7, show IntKind.i64.wrap 0 = 0 from rfl]; with_reducible rfl) ?_ | refine wt (by simpa [hi2, hie, hp, hq, hp0, hq0, w2, hl, hpN, hqN, hpl, hql, w3, w4, w5, w6, d1, n1, g1, d2, n2, g2, d3, n3, g3, d4, e1, hcl1, hct, w7, show IntKind.i64.wrap 0 = 0 from rfl]) ?_ | refine wf (by simpa [hi2, hie, hp, hq, hp0, hq0, w2, hl, hpN, hqN, hpl, hql, w3, w4, w5, w6, d1, n1, g1, d2, n2, g2, d3, n3, g3, d4, e1, hcl1, hct, w7, show IntKind.i64.wrap 0 = 0 from rfl]) ?_ | refine xt (by simpa [hi2, hie, hp, hq, hp0, hq0, w2, hl, hpN, hqN, hpl, hql, w3, w4, w5, w6, d1, n1, g1, d2, n2, g2, d3, n3, g3, d4, e1, hcl1, hct, w7, show IntKind.i64.wrap 0 = 0 from rfl]) ?_ | refine xf (by simpa [hi2, hie, hp, hq, hp0, hq0, w2, hl, hpN, hqN, hpl, hql, w3, w4, w5, w6, d1, n1, g1, d2, n2, g2, d3, n3, g3, d4, e1, hcl1, hct, w7, show IntKind.i64.wrap 0 = 0 from rfl]) ?_ | apply wp_bs | apply wp_b | refine wp_sr ?_ | refine wp_sx ?_ | refine wp_ret' ?_ | refine wp_skip' ?_ | refine wp_exit' ?_)
      simp [if_impl_subgraphs_F1]
    · simp only [List.nil_append, List.length_nil, O2, show eds [((p : Int), (q : Int))] = [[I p, I q]] from rfl] at e1 hcl1 hct w7
      refine call_of_wp tb_impl_subgraphs_F1 rfl ?_
      repeat (first | apply wp_as | apply wp_ss | refine wr (by simp [hi2, hie, hp, hq, hp0, hq0, w2, hl, hpN, hqN, hpl, hql, w3, w4, w5, w6, d1, n1, g1, d2, n2, g2, d3, n3, g3, d4, e1, hcl1, hct, w7, show IntKind.i64.wrap 0 = 0 from rfl]; with_reducible rfl) ?_ | refine wq (by simp [hi2, hie, hp, hq, hp0, hq0, w2, hl, hpN, hqN, hpl, hql, w3, w4, w5, w6, d1, n1, g1, d2, n2, g2, d3, n3, g3, d4, e1, hcl1, hct, w7, show IntKind.i64.wrap 0 = 0 from rfl]; with_reducible rfl) ?_ | refine wt (by simpa [hi2, hie, hp, hq, hp0, hq0, w2, hl, hpN, hqN, hpl, hql, w3, w4, w5, w6, d1, n1, g1, d2, n2, g2, d3, n3, g3, d4, e1, hcl1, hct, w7, show IntKind.i64.wrap 0 = 0 from rfl]) ?_ | refine wf (by simpa [hi2, hie, hp, hq, hp0, hq0, w2, hl, hpN, hqN, hpl, hql, w3, w4, w5, w6, d1, n1, g1, d2, n2, g2, d3, n3, g3, d4, e1, hcl1, hct, w7, show IntKind.i64.wrap 0 = 0 from rfl]) ?_ | refine xt (by simpa [hi2, hie, hp, hq, hp0, hq0, w2, hl, hpN, hqN, hpl, hql, w3, w4, w5, w6, d1, n1, g1, d2, n2, g2, d3, n3, g3, d4, e1, hcl1, hct, w7, show IntKind.i64.wrap 0 = 0 from rfl]) ?_ | refine xf (by simpa [hi2, hie, hp, hq, hp0, hq0, w2, hl, hpN, hqN, hpl, hql, w3, w4, w5, w6, d1, n1, g1, d2, n2, g2, d3, n3, g3, d4, e1, hcl1, hct, w7, show IntKind.i64.wrap 0 = 0 from rfl]) ?_ | apply wp_bs | apply wp_b | refine wp_sr ?_ | refine wp_sx ?_ | refine wp_ret' ?_ | refine wp_skip' ?_ | refine wp_exit' ?_)
      simp [if_impl_subgraphs_F1]
  | true =>
    have e2 := ev_lim (e2 rfl)
    rw [show ((i + 1 : Nat) : Int) = (i : Int) + 1 by omega] at e2
    simp only [boxW, capsW] at e2
    rcases hch with rfl | ⟨rfl, rfl⟩
    · refine call_of_wp tb_impl_subgraphs_F1 rfl ?_
      repeat (first | apply wp_as | apply wp_ss | refine wr (by simp [hi2, hie, hp, hq, hp0, hq0, w2, hl, hpN, hqN, hpl, hql, w3, w4, w5, w6, d1, n1, g1, d2, n2, g2, d3, n3, g3, d4, e1, e2, hcl1, hct, w7, show IntKind.i64.wrap 0 = 0 from rfl]; with_reducible rfl) ?_ | refine wq (by simp [hi2, hie, hp, hq, hp0, hq0, w2, hl, hpN, hqN, hpl, hql, w3, w4, w5, w6, d1, n1, g1, d2, n2, g2, d3, n3, g3, d4, e1, e2, hcl1, hct, w7, show IntKind.i64.wrap 0 = 0 from rfl]; with_reducible rfl) ?_ | refine wt (by simpa [hi2, hie, hp, hq, hp0, hq0, w2, hl, hpN, hqN, hpl, hql, w3, w4, w5, w6, d1, n1, g1, d2, n2, g2, d3, n3, g3, d4, e1, e2, hcl1, hct, w7, show IntKind.i64.wrap 0 = 0 from rfl]) ?_ | refine wf (by simpa [hi2, hie, hp, hq, hp0, hq0, w2, hl, hpN, hqN, hpl, hql, w3, w4, w5, w6, d1, n1, g1, d2, n2, g2, d3, n3, g3, d4, e1, e2, hcl1, hct, w7, show IntKind.i64.wrap 0 = 0 from rfl]) ?_ | refine xt (by simpa [hi2, hie, hp, hq, hp0, hq0, w2, hl, hpN, hqN, hpl, hql, w3, w4, w5, w6, d1, n1, g1, d2, n2, g2, d3, n3, g3, d4, e1, e2, hcl1, hct, w7, show IntKind.i64.wrap 0 = 0 from rfl]) ?_ | refine xf (by simpa [hi2, hie, hp, hq, hp0, hq0, w2, hl, hpN, hqN, hpl, hql, w3, w4, w5, w6, d1, n1, g1, d2, n2, g2, d3, n3, g3, d4, e1, e2, hcl1, hct, w7, show IntKind.i64.wrap 0 = 0 from rfl]) ?_ | apply wp_bs | apply wp_b | refine wp_sr ?_ | refine wp_sx ?_ | refine wp_ret' ?_ | refine wp_skip' ?_ | refine wp_exit' ?_)
      simp [if_impl_subgraphs_F1]
    · simp only [List.nil_append, List.length_nil, O2, show eds [((p : Int), (q : Int))] = [[I p, I q]] from rfl] at e1 hcl1 hct w7
      simp only [O2, eds_nil] at e2
      refine call_of_wp tb_impl_subgraphs_F1 rfl ?_
      repeat (first | apply wp_as | apply wp_ss | refine wr (by simp [hi2, hie, hp, hq, hp0, hq0, w2, hl, hpN, hqN, hpl, hql, w3, w4, w5, w6, d1, n1, g1, d2, n2, g2, d3, n3, g3, d4, e1, e2, hcl1, hct, w7, show IntKind.i64.wrap 0 = 0 from rfl]; with_reducible rfl) ?_ | refine wq (by simp [hi2, hie, hp, hq, hp0, hq0, w2, hl, hpN, hqN, hpl, hql, w3, w4, w5, w6, d1, n1, g1, d2, n2, g2, d3, n3, g3, d4, e1, e2, hcl1, hct, w7, show IntKind.i64.wrap 0 = 0 from rfl]; with_reducible rfl) ?_ | refine wt (by simpa [hi2, hie, hp, hq, hp0, hq0, w2, hl, hpN, hqN, hpl, hql, w3, w4, w5, w6, d1, n1, g1, d2, n2, g2, d3, n3, g3, d4, e1, e2, hcl1, hct, w7, show IntKind.i64.wrap 0 = 0 from rfl]) ?_ | refine wf (by simpa [hi2, hie, hp, hq, hp0, hq0, w2, hl, hpN, hqN, hpl, hql, w3, w4, w5, w6, d1, n1, g1, d2, n2, g2, d3, n3, g3, d4, e1, e2, hcl1, hct, w7, show IntKind.i64.wrap 0 = 0 from rfl]) ?_ | refine xt (by simpa [hi2, hie, hp, hq, hp0, hq0, w2, hl, hpN, hqN, hpl, hql, w3, w4, w5, w6, d1, n1, g1, d2, n2, g2, d3, n3, g3, d4, e1, e2, hcl1, hct, w7, show IntKind.i64.wrap 0 = 0 from rfl]) ?_ | refine xf (by simpa [hi2, hie, hp, hq, hp0, hq0, w2, hl, hpN, hqN, hpl, hql, w3, w4, w5, w6, d1, n1, g1, d2, n2, g2, d3, n3, g3, d4, e1, e2, hcl1, hct, w7, show IntKind.i64.wrap 0 = 0 from rfl]) ?_ | apply wp_bs | apply wp_b | refine wp_sr ?_ | refine wp_sx ?_ | refine wp_ret' ?_ | refine wp_skip' ?_ | refine wp_exit' ?_)
      simp [if_impl_subgraphs_F1]

theorem dec_ok {left : List Int} {p q : Nat} (hp : p < left.length) (hq : q < left.length) (hpq : p ≠ q) :
    Dec left (left.set p (left[p] - 1)) (decAt (decAt left p) q) ((decAt (decAt left p) q).set p left[p]) p q hp hq := by
  have gp : left.getD p 0 = left[p] := by simp [List.getD_eq_getElem?_getD, List.getElem?_eq_getElem hp]
  have h1 : decAt left p = left.set p (left[p] - 1) := by rw [decAt, gp]
  have gq : (left.set p (left[p] - 1)).getD q 0 = left[q] := by
    rw [List.getD_eq_getElem?_getD, List.getElem?_set, if_neg hpq, List.getElem?_eq_getElem hq]; rfl
  have h2 : decAt (decAt left p) q = (left.set p (left[p] - 1)).set q (left[q] - 1) := by
    rw [h1, decAt, gq]
  rw [h2]
  refine ⟨rfl, by simp, fun h => ?_, rfl, by simp, fun h => ?_, rfl, by simp, fun h => ?_, ?_⟩
  · rw [List.getElem_set_ne hpq]
  · rw [List.getElem_set_ne hpq.symm, List.getElem_set_self]
  · rw [List.getElem_set_ne hpq, List.getElem_set_self]
  · refine List.ext_getElem (by simp) fun k k1 k2 => ?_
    rw [List.getElem_set, List.getElem_set, List.getElem_set, List.getElem_set]
    split
    · subst_vars; rfl
    · split
      · subst_vars; rfl
      · rfl

end Go.Idl

namespace Go.Idl

open Go

theorem subs_len : ∀ (r : List (Int × Int)) (left : List Int) (ch : List (Int × Int)), (subs r left ch).length ≤ 2 ^ r.length
  | [], left, ch => by rw [subs]; split <;> simp
  | e :: r, left, ch => by
    have h1 := subs_len r (decAt (decAt left e.1.toNat) e.2.toNat) (ch ++ [e])
    have h2 := subs_len r left ch
    rw [subs, List.length_append, List.length_cons, Nat.pow_succ]
    split
    · omega
    · simp; omega

theorem upTo_true (l : List (List (Int × Int))) : upTo (fun _ => true) l = (l, true) := by
  induction l with
  | nil => rfl
  | cons g r ih => simp [upTo, ih]

theorem upTo_len (more) : ∀ l : List (List (Int × Int)), (upTo more l).1.length ≤ l.length
  | [] => by simp [upTo]
  | g :: r => by
    have := upTo_len more r
    rw [upTo]
    split
    · simp; exact this
    · simp

theorem decAt_len (o : List Int) (i : Nat) : (decAt o i).length = o.length := by simp [decAt]

theorem sg_walk (n : Int) (e0 : Nat) (from_ : List (Int × Int)) (c : Bool) (F : Lab) (caps : List IV) (more : List (Int × Int) → Bool) (P : List (List (Int × Int)) → Boxes → Prop) (hcb : CallsBack n F caps more P) (N : Nat)
    (hfr : ∀ e ∈ from_, 0 ≤ e.1 ∧ e.1 < e.2 ∧ e.2 < N) (hfl : from_.length ≤ 900) (hN : N ≤ 1000) (he0 : e0 = 2 ∨ from_ = []) : ∀ (m i : Nat) (left : List Int) (ch : IV) (chosen : List (Int × Int)) (gl : List (List (Int × Int))) (bs : Boxes) (Es : List Boxes), i + m = from_.length → P gl bs → EdRep ch chosen →
    left.length = N → (∀ x ∈ left, x ≤ 1000) → chosen.length + m ≤ 950 → gl.length + 2 ^ m ≤ 10000000 →
    ∃ ch' bs', EdRep ch' chosen ∧ P (gl ++ (upTo more (subs (from_.drop i) left chosen)).1) bs' ∧
      Ev tb l_impl_subgraphs_F1 [] (I i :: capsW) (bs :: boxW n e0 from_ c F caps left ch :: Es) ⟨Bo (upTo more (subs (from_.drop i) left chosen)).2, [], bs' :: boxW n e0 from_ c F caps left ch' :: Es, []⟩ := by
  intro m
  induction m with
  | zero =>
    intro i left ch chosen gl bs Es hi hP hch hl hlb hcl hgl
    have h3 : i = from_.length := hi
    subst h3
    rw [List.drop_length]
    exact sg_end n e0 from_ c F caps more P hcb N hN hfl left ch chosen gl bs Es hP (by omega) hch hl (by omega)
  | succ m ih =>
    intro i left ch chosen gl bs Es hi hP hch hl hlb hcl hgl
    have hi2 : i < from_.length := by omega
    have he2 : e0 = 2 := he0.resolve_right fun h => by rw [h] at hi2; simp at hi2
    subst he2
    have hd : from_.drop i = from_[i] :: from_.drop (i + 1) := List.drop_eq_getElem_cons hi2
    rw [Nat.pow_succ] at hgl
    obtain ⟨hf1, hf2, hf3⟩ := hfr _ (List.getElem_mem hi2)
    obtain ⟨p, hp⟩ := Int.eq_ofNat_of_zero_le hf1
    obtain ⟨q, hq⟩ := Int.eq_ofNat_of_zero_le (show 0 ≤ from_[i].2 by omega)
    have hpl : p < left.length := by omega
    have hql : q < left.length := by omega
    have hpq : p ≠ q := by omega
    have gp : left.getD p 0 = left[p] := by simp [List.getD_eq_getElem?_getD, List.getElem?_eq_getElem hpl]
    have gq : left.getD q 0 = left[q] := by simp [List.getD_eq_getElem?_getD, List.getElem?_eq_getElem hql]
    have he : from_[i] = ((p : Int), (q : Int)) := Prod.ext hp hq
    rw [hd, subs]
    have tp : from_[i].1.toNat = p := by omega
    have tq : from_[i].2.toNat = q := by omega
    rw [tp, tq, gp, gq]
    by_cases hpos : 0 < left[p] ∧ 0 < left[q]
    rotate_left
    · rw [if_neg hpos, List.nil_append]
      obtain ⟨ch', bs', k1, k2, k3⟩ := ih (i + 1) left ch chosen gl bs (Es ++ [[[I p, I q]]]) (by omega) hP hch hl hlb (by omega) (by omega)
      exact ⟨ch', bs', k1, k2, sg_skip n from_ c F caps i p q N hi2 hfl hp hq left hl (by omega) (by omega) hpos ch ch' bs bs' Es _ k3⟩
    · rw [if_pos hpos, he]
      have hD := dec_ok hpl hql hpq
      have hlb2 : ∀ x ∈ decAt (decAt left p) q, x ≤ 1000 := fun x hx => by
        have one : ∀ (o : List Int) (k : Nat), (∀ x ∈ o, x ≤ 1000) → ∀ x ∈ decAt o k, x ≤ 1000 := fun o k ho x hx => by
          rcases List.mem_or_eq_of_mem_set hx with hx | rfl
          · exact ho x hx
          · rw [List.getD_eq_getElem?_getD]
            cases ho2 : o[k]? with
            | none => simp
            | some y => have := ho y (List.mem_of_getElem? ho2); simp; omega
        exact one _ q (one _ p hlb) x hx
      obtain ⟨ch1, bs1, k1, k2, k3⟩ := ih (i + 1) (decAt (decAt left p) q) (O2 (chosen ++ [((p : Int), (q : Int))])) (chosen ++ [((p : Int), (q : Int))]) gl bs (Es ++ [[[I p, I q]]]) (by omega) hP (.inl rfl) (by rw [decAt_len, decAt_len]; exact hl) hlb2 (by simp; omega) (by omega)
      have hc1 : ch1 = O2 (chosen ++ [((p : Int), (q : Int))]) := by
        rcases k1 with k1 | ⟨k1, _⟩
        · exact k1
        · simp at k1
      subst hc1
      rw [upTo_app]
      obtain ⟨b1, hb1⟩ : ∃ b1, b1 = (upTo more (subs (from_.drop (i + 1)) (decAt (decAt left p) q) (chosen ++ [((p : Int), (q : Int))]))).2 := ⟨_, rfl⟩
      rw [← hb1] at k3 ⊢
      have bp := hlb _ (List.getElem_mem hpl)
      have bq := hlb _ (List.getElem_mem hql)
      cases b1 with
      | false =>
        simp only [Bool.false_eq_true, if_false]
        rw [← hb1]
        refine ⟨O2 chosen, bs1, .inl rfl, k2, ?_⟩
        exact sg_take n from_ c F caps i p q N hi2 hfl hp hq left _ _ _ hl (by omega) (by omega) hpl hql hD bp bq hpos.1 hpos.2 ch (O2 chosen) chosen hch (by omega) bs bs1 bs1 Es false false k3 (fun h => by cases h) (fun _ => ⟨rfl, rfl, rfl⟩)
      | true =>
        simp only [if_true]
        have hgl2 : (gl ++ (upTo more (subs (from_.drop (i + 1)) (decAt (decAt left p) q) (chosen ++ [((p : Int), (q : Int))]))).1).length + 2 ^ m ≤ 10000000 := by
          have h1 := upTo_len more (subs (from_.drop (i + 1)) (decAt (decAt left p) q) (chosen ++ [((p : Int), (q : Int))]))
          have h2 := subs_len (from_.drop (i + 1)) (decAt (decAt left p) q) (chosen ++ [((p : Int), (q : Int))])
          rw [List.length_drop, show from_.length - (i + 1) = m by omega] at h2
          rw [List.length_append]; omega
        obtain ⟨ch2, bs2, j1, j2, j3⟩ := ih (i + 1) left (O2 chosen) chosen _ bs1 (Es ++ [[[I p, I q]]]) (by omega) k2 (.inl rfl) hl hlb (by omega) hgl2
        refine ⟨ch2, bs2, j1, by rw [← List.append_assoc]; exact j2, ?_⟩
        exact sg_take n from_ c F caps i p q N hi2 hfl hp hq left _ _ _ hl (by omega) (by omega) hpl hql hD bp bq hpos.1 hpos.2 ch ch2 chosen hch (by omega) bs bs1 bs2 Es true _ k3 (fun _ => j3) (fun h => by cases h)

/-- The search itself; edges may be none. -/
theorem ev_subgraphs (n : Int) (e0 : Nat) (from_ : List (Int × Int)) (c : Bool) (d : List Int) (cd : Bool) (F : Lab) (caps : List IV) (more : List (Int × Int) → Bool) (P : List (List (Int × Int)) → Boxes → Prop) (hcb : CallsBack n F caps more P)
    (he0 : e0 = 2 ∨ from_ = []) (hfr : ∀ e ∈ from_, 0 ≤ e.1 ∧ e.1 < e.2 ∧ e.2 < d.length) (hfl : from_.length ≤ 21) (hN : d.length ≤ 1000) (hd : ∀ x ∈ d, x ≤ 1000) (bs : Boxes) (hP : P [] bs) :
    ∃ bs', P (upTo more (subs from_ d [])).1 bs' ∧ Ev tb l_impl_subgraphs [] [I n, .lst e0 (eds from_) c, L d cd, .fn F caps] [bs] ⟨.tup [], [], [bs'], []⟩ := by
  obtain ⟨ch', bs', k1, k2, k3⟩ := sg_walk n e0 from_ c F caps more P hcb d.length hfr (by omega) hN he0 from_.length 0 d Z [] [] bs [] (by simp) hP (.inr ⟨rfl, rfl⟩) rfl hd (by simp; omega) (by
    have := Nat.pow_le_pow_right (show 0 < 2 by decide) hfl
    simp only [List.length_nil]; omega)
  refine ⟨bs', by simpa using k2, ?_⟩
  have e1 := ev_lim k3
  have e2 := ev_lim (ev_clone d cd (by omega))
  simp only [boxW, capsW] at e1
  rw [show ((0 : Nat) : Int) = 0 from rfl] at e1
  refine call_of_wp tb_impl_subgraphs rfl ?_
  repeat (first | apply wp_as | apply wp_ss | refine wr (by simp [e1, e2]; with_reducible rfl) ?_ | refine wq (by simp [e1, e2]; with_reducible rfl) ?_ | refine wt (by simpa [e1, e2]) ?_ | refine wf (by simpa [e1, e2]) ?_ | refine xt (by simpa [e1, e2]) ?_ | refine xf (by simpa [e1, e2]) ?_ | apply wp_bs | apply wp_b | refine wp_sr ?_ | refine wp_sx ?_ | refine wp_ret' ?_ | refine wp_skip' ?_ | refine wp_exit' ?_)
  simp [if_impl_subgraphs]

end Go.Idl

namespace Go.Idl

open Go

/-- Graphs in a slice. -/
def gls (n : Int) (gl : List (List (Int × Int))) : List (List IV) := gl.map fun es => [I n, O2 es]

@[simp] theorem gls_len (n : Int) (gl) : (gls n gl).length = gl.length := by simp [gls]

@[simp] theorem gls_one (n : Int) (gl) (es : List (Int × Int)) : gls n gl ++ [[IV.sc (.int .i64 n), .own 2 (eds es)]] = gls n (gl ++ [es]) := by simp [gls]

@[simp] theorem gls_emp (n : Int) (gl) : (gls n gl).isEmpty = gl.isEmpty := by cases gl <;> rfl

@[simp] theorem gls_take (n : Int) (gl) (k : Nat) : (gls n gl).take k = gls n (gl.take k) := by simp [gls, List.map_take]

@[simp] theorem gls_all (n : Int) (gl) : ((gls n gl).all fun x => x.all IV.isData) = true := by
  induction gl with
  | nil => rfl
  | cons x xs ih => simp only [gls, List.map_cons, List.all_cons] at *; rw [ih]; rfl

@[simp] theorem gls_noLst (n : Int) (gl) : noLstLL (gls n gl) = true := by
  induction gl with
  | nil => rfl
  | cons x xs ih => simp only [gls, List.map_cons, noLstLL, noLstL, noLstV, eds_noLst] at *; rw [ih]; rfl

theorem ev_listed (d : List Int) (c : Bool) (k : Int) (hl : d.length ≤ 1000000) : Ev tb l_impl_listed [] [L d c, I k] [] ⟨Bo (valid d && decide ((d.length : Int) ≤ k)), [], [], []⟩ := by
  have e1 := ev_lim (ev_ValidDegrees d c hl)
  cases hv : valid d with
  | false =>
    rw [hv] at e1
    refine call_of_wp tb_impl_listed rfl ?_
    repeat (first | apply wp_as | apply wp_ss | refine wr (by simp [e1]; with_reducible rfl) ?_ | refine wq (by simp [e1]; with_reducible rfl) ?_ | refine wt (by simpa [e1]) ?_ | refine wf (by simpa [e1]) ?_ | refine xt (by simpa [e1]) ?_ | refine xf (by simpa [e1]) ?_ | apply wp_bs | apply wp_b | refine wp_sr ?_ | refine wp_sx ?_ | refine wp_ret' ?_ | refine wp_skip' ?_ | refine wp_exit' ?_)
    simp [if_impl_listed]
  | true =>
    rw [hv] at e1
    refine call_of_wp tb_impl_listed rfl ?_
    repeat (first | apply wp_as | apply wp_ss | refine wr (by simp [e1]; with_reducible rfl) ?_ | refine wq (by simp [e1]; with_reducible rfl) ?_ | refine wt (by simpa [e1]) ?_ | refine wf (by simpa [e1]) ?_ | refine xt (by simpa [e1]) ?_ | refine xf (by simpa [e1]) ?_ | apply wp_bs | apply wp_b | refine wp_sr ?_ | refine wp_sx ?_ | refine wp_ret' ?_ | refine wp_skip' ?_ | refine wp_exit' ?_)
    simp [if_impl_listed]

theorem prs21 : ∀ n, n ≤ 7 → (prs n).length ≤ 21 := by decide +kernel

/-- All graphs with degrees. -/
def reals (d : List Int) : List (List (Int × Int)) := subs (prs d.length) d []

end Go.Idl

namespace Go.Idl

open Go

theorem ev_smallGraph (code : List Int) (c : Bool) (hc : CodeOk code) (cnt : Nat) (hn : cnt ≤ 90000) (bs : Boxes) (Ms : List Boxes) :
    ∃ (n : Nat) (es : List (Int × Int)) (k : Nat), n ≤ 5 ∧ es.Sublist (prs n) ∧ k ≤ cnt + 101 ∧
      limF tb l_spec_smallGraph [] [.bptr 0 0 0] ((R code c cnt :: bs) :: Ms) = some ⟨OG n es, [], (R code c k :: bs) :: Ms, []⟩ := by
  obtain ⟨x, k1, hx, hk1, e1⟩ := one2 code c hc cnt (by omega) [5, 4, 5, 3, 2, 1] (by simp) bs (Ms ++ [[[I 0, .lst 0 [] true]]])
  obtain ⟨n, rfl, hn7⟩ : ∃ n : Nat, x = (n : Int) ∧ n ≤ 5 := by
    simp at hx
    exact ⟨x.toNat, by omega, by omega⟩
  obtain ⟨es, k, hs, hk, ea⟩ := ev_aGraph code c hc k1 (by omega) n (by omega) bs (Ms ++ [[[I 0, .lst 0 [] true]]])
  have e2 := ev_lim ea
  refine ⟨n, es, k, hn7, hs, by omega, ev_lim ?_⟩
  refine call_of_wp tb_spec_smallGraph rfl ?_
  repeat (first | apply wp_as | apply wp_ss | refine wr (by simp [e1, e2]; with_reducible rfl) ?_ | refine wq (by simp [e1, e2]; with_reducible rfl) ?_ | refine wt (by simpa [e1, e2]) ?_ | refine wf (by simpa [e1, e2]) ?_ | refine xt (by simpa [e1, e2]) ?_ | refine xf (by simpa [e1, e2]) ?_ | apply wp_bs | apply wp_b | refine wp_sr ?_ | refine wp_sx ?_ | refine wp_ret' ?_ | refine wp_skip' ?_ | refine wp_exit' ?_)
  simp [if_spec_smallGraph]

theorem ev_smallDegrees (code : List Int) (c : Bool) (hc : CodeOk code) (cnt : Nat) (hn : cnt ≤ 80000) (bs : Boxes) (Ms : List Boxes) :
    ∃ (d : List Int) (k : Nat), d.length ≤ 5 ∧ Low 1000 d ∧ k ≤ cnt + 200 ∧
      limF tb l_spec_smallDegrees [] [.bptr 0 0 0] ((R code c cnt :: bs) :: Ms) = some ⟨O d, [], (R code c k :: bs) :: Ms, []⟩ := by
  obtain ⟨n, es, k, hn7, hs, hk, e1⟩ := ev_smallGraph code c hc cnt (by omega) bs (Ms ++ [[]])
  have hel := prs_len (by omega) hs
  have e2 := ev_lim (ev_degrees n es false (by omega) (by omega) (prs_in hs))
  have hdl : (degs n es).length = n := by rw [degs, dfold_len]; simp
  have hlo : Low 1000 (degs n es) := by
    intro x hx
    have := dfold_bound es (List.replicate n 0) 0 (by intro x hx; have := List.eq_of_mem_replicate hx; omega) (by omega) x hx
    omega
  obtain ⟨v, k2, hv, hk2, e3⟩ := pick' code c hc k (by omega) 3 (by omega) bs (Ms ++ [[]])
  generalize degs n es = d at *
  by_cases hv0 : v = 0
  · subst hv0
    obtain ⟨d', k3, hd', hlo', hk3, e4⟩ := ev_lifted code c hc k2 (by omega) d (by omega) hlo bs (Ms ++ [[]])
    refine ⟨d', k3, by omega, hlo', by omega, ev_lim ?_⟩
    refine call_of_wp tb_spec_smallDegrees rfl ?_
    repeat (first | apply wp_as | apply wp_ss | refine wr (by simp [e1, e2, e3, e4]; with_reducible rfl) ?_ | refine wq (by simp [e1, e2, e3, e4]; with_reducible rfl) ?_ | refine wt (by simpa [e1, e2, e3, e4]) ?_ | refine wf (by simpa [e1, e2, e3, e4]) ?_ | refine xt (by simpa [e1, e2, e3, e4]) ?_ | refine xf (by simpa [e1, e2, e3, e4]) ?_ | apply wp_bs | apply wp_b | refine wp_sr ?_ | refine wp_sx ?_ | refine wp_ret' ?_ | refine wp_skip' ?_ | refine wp_exit' ?_)
    simp [if_spec_smallDegrees]
  · have hv1 : ¬ (v : Int) = 0 := by omega
    refine ⟨d, k2, by omega, hlo, by omega, ev_lim ?_⟩
    refine call_of_wp tb_spec_smallDegrees rfl ?_
    repeat (first | apply wp_as | apply wp_ss | refine wr (by simp [e1, e2, e3, hv0, hv1]; with_reducible rfl) ?_ | refine wq (by simp [e1, e2, e3, hv0, hv1]; with_reducible rfl) ?_ | refine wt (by simpa [e1, e2, e3, hv0, hv1]) ?_ | refine wf (by simpa [e1, e2, e3, hv0, hv1]) ?_ | refine xt (by simpa [e1, e2, e3, hv0, hv1]) ?_ | refine xf (by simpa [e1, e2, e3, hv0, hv1]) ?_ | apply wp_bs | apply wp_b | refine wp_sr ?_ | refine wp_sx ?_ | refine wp_ret' ?_ | refine wp_skip' ?_ | refine wp_exit' ?_)
    simp [if_spec_smallDegrees]

theorem ev_fewDegrees (code : List Int) (c : Bool) (hc : CodeOk code) (cnt : Nat) (hn : cnt ≤ 60000) (bs : Boxes) (Ms : List Boxes) :
    ∃ (d : List Int) (k : Nat), d.length ≤ 8 ∧ Low 1000 d ∧ k ≤ cnt + 400 ∧
      limF tb l_spec_fewDegrees [] [.bptr 0 0 0] ((R code c cnt :: bs) :: Ms) = some ⟨O d, [], (R code c k :: bs) :: Ms, []⟩ := by
  obtain ⟨v, k1, hv, hk1, e1⟩ := pick' code c hc cnt (by omega) 24 (by omega) bs (Ms ++ [[]])
  by_cases hv0 : v = 0
  · subst hv0
    obtain ⟨d, k2, h1, h2, h3, e2⟩ := ev_someDegrees code c hc k1 (by omega) bs (Ms ++ [[]])
    refine ⟨d, k2, h1, h2, by omega, ev_lim ?_⟩
    refine call_of_wp tb_spec_fewDegrees rfl ?_
    repeat (first | apply wp_as | apply wp_ss | refine wr (by simp [e1, e2]; with_reducible rfl) ?_ | refine wq (by simp [e1, e2]; with_reducible rfl) ?_ | refine wt (by simpa [e1, e2]) ?_ | refine wf (by simpa [e1, e2]) ?_ | refine xt (by simpa [e1, e2]) ?_ | refine xf (by simpa [e1, e2]) ?_ | apply wp_bs | apply wp_b | refine wp_sr ?_ | refine wp_sx ?_ | refine wp_ret' ?_ | refine wp_skip' ?_ | refine wp_exit' ?_)
    simp [if_spec_fewDegrees]
  · have hv1 : ¬ (v : Int) = 0 := by omega
    obtain ⟨d, k2, h1, h2, h3, e2⟩ := ev_smallDegrees code c hc k1 (by omega) bs (Ms ++ [[]])
    obtain ⟨d', k3, j1, j2, j3, e3⟩ := ev_bent code c hc k2 (by omega) d (by omega) h2 bs (Ms ++ [[]])
    refine ⟨d', k3, by omega, j2, by omega, ev_lim ?_⟩
    refine call_of_wp tb_spec_fewDegrees rfl ?_
    repeat (first | apply wp_as | apply wp_ss | refine wr (by simp [e1, e2, e3, hv0, hv1]; with_reducible rfl) ?_ | refine wq (by simp [e1, e2, e3, hv0, hv1]; with_reducible rfl) ?_ | refine wt (by simpa [e1, e2, e3, hv0, hv1]) ?_ | refine wf (by simpa [e1, e2, e3, hv0, hv1]) ?_ | refine xt (by simpa [e1, e2, e3, hv0, hv1]) ?_ | refine xf (by simpa [e1, e2, e3, hv0, hv1]) ?_ | apply wp_bs | apply wp_b | refine wp_sr ?_ | refine wp_sx ?_ | refine wp_ret' ?_ | refine wp_skip' ?_ | refine wp_exit' ?_)
    simp [if_spec_fewDegrees]

end Go.Idl

namespace Go.Idl

open Go

theorem count_F1 (n : Int) (k : Nat) (es : List (Int × Int)) (B : Boxes) (Es : List Boxes) (hk : k ≤ 100000000) :
    Ev tb l_impl_CountRealizations_F1 [] [.agg [I n, O2 es], .bptr 0 0 0] ([[I k]] :: B :: Es) ⟨Bo true, [], [[I ((k + 1 : Nat) : Int)]] :: B :: Es, []⟩ := by
  have w1 : IntKind.i64.wrap ((k : Int) + 1) = ((k + 1 : Nat) : Int) := wrapS (by omega)
  refine call_of_wp tb_impl_CountRealizations_F1 rfl ?_
  repeat (first | apply wp_as | apply wp_ss | refine wr (by simp [w1]; with_reducible rfl) ?_ | refine wq (by simp [w1]; with_reducible rfl) ?_ | refine wt (by simpa [w1]) ?_ | refine wf (by simpa [w1]) ?_ | refine xt (by simpa [w1]) ?_ | refine xf (by simpa [w1]) ?_ | apply wp_bs | apply wp_b | refine wp_sr ?_ | refine wp_sx ?_ | refine wp_ret' ?_ | refine wp_skip' ?_ | refine wp_exit' ?_)
  simp [if_impl_CountRealizations_F1]

theorem calls_count (n : Int) : CallsBack n l_impl_CountRealizations_F1 [.bptr 0 0 0] (fun _ => true) (fun gl bs => bs = [[I gl.length]]) := by
  intro gl bs es hP hl he
  exact ⟨[[I (gl.length + 1 : Nat)]], by simp, fun B Es => by rw [hP]; exact count_F1 n gl.length es B Es (by omega)⟩

theorem ev_CountRealizations (d : List Int) (c : Bool) (hv : valid d = true) (h6 : d.length ≤ 6) : Ev tb l_impl_CountRealizations [] [L d c] [] ⟨I (reals d).length, [], [], []⟩ := by
  have hf := valid_few hv
  have e1 := ev_lim (ev_listed d c 6 (by omega))
  rw [hv, decide_eq_true (by omega : (d.length : Int) ≤ 6), Bool.true_and] at e1
  have e2 := ev_lim (ev_impl_pairs d.length (by omega))
  have hpl := prs21 d.length (by omega)
  have hin : ∀ e ∈ prs d.length, 0 ≤ e.1 ∧ e.1 < e.2 ∧ e.2 < d.length := fun e he => mem_prs.1 he
  obtain ⟨bs', k1, k2⟩ : ∃ bs', (fun (gl : List (List (Int × Int))) bs => bs = [[I gl.length]]) (upTo (fun _ => true) (reals d)).1 bs' ∧ Ev tb l_impl_subgraphs [] [I d.length, match nl2 (prs d.length) with | .own e x => .lst e x false | x => x, L d c, .fn l_impl_CountRealizations_F1 [.bptr 0 0 0]] [[[I 0]]] ⟨.tup [], [], [bs'], []⟩ := by
    unfold reals
    cases hq : prs d.length with
    | nil => exact ev_subgraphs d.length 0 [] true d c _ _ _ _ (calls_count d.length) (.inr rfl) (by simp) (by simp) (by omega) (fun x hx => by have := hf.2 x hx; omega) [[I 0]] rfl
    | cons e r =>
      rw [hq] at hin hpl
      exact ev_subgraphs d.length 2 (e :: r) false d c _ _ _ _ (calls_count d.length) (.inl rfl) hin hpl (by omega) (fun x hx => by have := hf.2 x hx; omega) [[I 0]] rfl
  rw [upTo_true] at k1
  simp only at k1
  subst k1
  have e3 := ev_lim k2
  generalize (reals d).length = m at *
  cases hq : prs d.length with
  | nil =>
    rw [hq] at e2 e3
    simp only [nl2_nil] at e2 e3
    refine call_of_wp tb_impl_CountRealizations rfl ?_
    repeat (first | apply wp_as | apply wp_ss | refine wr (by simp [e1, e2, e3]; with_reducible rfl) ?_ | refine wq (by simp [e1, e2, e3]; with_reducible rfl) ?_ | refine wt (by simpa [e1, e2, e3]) ?_ | refine wf (by simpa [e1, e2, e3]) ?_ | refine xt (by simpa [e1, e2, e3]) ?_ | refine xf (by simpa [e1, e2, e3]) ?_ | apply wp_bs | apply wp_b | refine wp_sr ?_ | refine wp_sx ?_ | refine wp_ret' ?_ | refine wp_skip' ?_ | refine wp_exit' ?_)
    simp [if_impl_CountRealizations]
  | cons e r =>
    rw [hq] at e2 e3
    simp only [nl2_cons] at e2 e3
    have hT : (e :: r).take (r.length + 1) = e :: r := List.take_of_length_le (by simp)
    refine call_of_wp tb_impl_CountRealizations rfl ?_
    repeat (first | apply wp_as | apply wp_ss | refine wr (by simp [e1, e2, e3, hT]; with_reducible rfl) ?_ | refine wq (by simp [e1, e2, e3, hT]; with_reducible rfl) ?_ | refine wt (by simpa [e1, e2, e3, hT]) ?_ | refine wf (by simpa [e1, e2, e3, hT]) ?_ | refine xt (by simpa [e1, e2, e3, hT]) ?_ | refine xf (by simpa [e1, e2, e3, hT]) ?_ | apply wp_bs | apply wp_b | refine wp_sr ?_ | refine wp_sx ?_ | refine wp_ret' ?_ | refine wp_skip' ?_ | refine wp_exit' ?_)
    simp [if_impl_CountRealizations]

/-- The reference's search. -/
def srS (n : Nat) (es : List (Int × Int)) (left : List Int) : List (Int × Int) → List (List (Int × Int))
  | [] => if left.sum = 0 then [es] else []
  | e :: r => (if 0 < left.getD e.1.toNat 0 ∧ 0 < left.getD e.2.toNat 0 then srS n (insE e es) (decAt (decAt left e.1.toNat) e.2.toNat) r else []) ++
      (if e.2 + 1 < n ∨ left.getD e.1.toNat 0 = 0 then srS n es left r else [])

/-- Graphs in a slice, as they are handed on. -/
abbrev GF := List (List (Int × Int) × Bool)

def glf (n : Int) (R : GF) : List (List IV) := R.map fun x => [I n, L2 x.1 x.2]

@[simp] theorem glf_len (n : Int) (R : GF) : (glf n R).length = R.length := by simp [glf]

@[simp] theorem glf_nil (n : Int) : glf n [] = [] := rfl

@[simp] theorem glf_app (n : Int) (R S : GF) : glf n R ++ glf n S = glf n (R ++ S) := by simp [glf]

@[simp] theorem glf_take (n : Int) (R : GF) (k : Nat) : (glf n R).take k = glf n (R.take k) := by simp [glf, List.map_take]

@[simp] theorem glf_all (n : Int) (R : GF) : ((glf n R).all fun x => x.all IV.isData) = true := by
  induction R with
  | nil => rfl
  | cons x xs ih => simp only [glf, List.map_cons, List.all_cons] at *; rw [ih]; rfl

end Go.Idl

namespace Go.Idl

open Go

theorem fall_valid {d : List Int} (hv : valid d = true) : valid (fall d) = true := by
  have hf := valid_few hv
  have hm := valid_mem hv
  rw [valid, Bool.and_eq_true, decide_eq_true_eq, List.all_eq_true, fall_len]
  refine ⟨hf.1, fun x hx => ?_⟩
  have := hm x (fall_mem.1 hx)
  simp only [Bool.and_eq_true, decide_eq_true_eq]
  exact this

end Go.Idl

namespace Go.Idl

open Go

@[simp] theorem un_neg (n : Int) : Op.unary .neg (.int .i64 n) = .pure (.int .i64 (IntKind.i64.wrap (-n))) := by
  rw [← Int.zero_sub]; rfl

end Go.Idl

namespace Go.Idl

open Go

/-- A square table of zeros and ones. -/
def TT (n : Nat) (t : List (List Int)) : Prop := t.length = n ∧ ∀ r ∈ t, r.length = n ∧ ∀ x ∈ r, 0 ≤ x ∧ x ≤ 1

theorem TT.set {n : Nat} {t : List (List Int)} (h : TT n t) {a b : Nat} {v : Int} (ha : a < t.length) (hv : 0 ≤ v ∧ v ≤ 1) : TT n (t.set a (t[a].set b v)) := by
  refine ⟨by simpa using h.1, fun r hr => ?_⟩
  have h1 := h.2 _ (List.getElem_mem ha)
  rcases List.mem_or_eq_of_mem_set hr with hr | rfl
  · exact h.2 r hr
  · refine ⟨by simpa using h1.1, fun x hx => ?_⟩
    rcases List.mem_or_eq_of_mem_set hx with hx | rfl
    · exact h1.2 x hx
    · exact hv

end Go.Idl

namespace Go.Idl

open Go

/-- A matrix of zeros and ones. -/
def MM (h w : Nat) (t : List (List Int)) : Prop := t.length = h ∧ ∀ r ∈ t, r.length = w ∧ ∀ x ∈ r, 0 ≤ x ∧ x ≤ 1

end Go.Idl

namespace Go.Idl

open Go

theorem MM.sums {h w : Nat} {t : List (List Int)} (ht : MM h w t) (hw : w ≤ 5) : ∀ x ∈ t.map List.sum, 0 ≤ x ∧ x ≤ 5 := by
  intro x hx
  obtain ⟨r, hr, rfl⟩ := List.mem_map.1 hx
  have h1 := ht.2 r hr
  have := sum01 r h1.2
  omega

end Go.Idl

namespace Go.Idl

open Go

def durfA : List Int → Nat → Nat → Nat
  | [], _, k => k
  | x :: q, i, k => durfA q (i + 1) (if (i : Int) ≤ x then i + 1 else k)

def durf (s : List Int) : Nat := durfA s 0 0

theorem durfA_le (B : Nat) : ∀ (s : List Int) (i k : Nat), k ≤ B → i + s.length ≤ B → durfA s i k ≤ B
  | [], _, _, h, _ => h
  | x :: q, i, k, h, hb => by
    simp only [List.length_cons] at hb
    rw [durfA]
    refine durfA_le B q _ _ ?_ (by omega)
    split <;> omega

theorem durfA_ge : ∀ (s : List Int) (i k : Nat), 1 ≤ k → 1 ≤ durfA s i k
  | [], _, _, h => h
  | x :: q, i, k, h => by
    rw [durfA]
    refine durfA_ge q _ _ ?_
    split <;> omega

theorem durf_le (s : List Int) : durf s ≤ s.length := durfA_le _ s 0 0 (by omega) (by omega)

theorem durf_ge {s : List Int} (h : s ≠ []) (h0 : ∀ x ∈ s, 0 ≤ x) : 1 ≤ durf s := by
  cases s with
  | nil => exact absurd rfl h
  | cons x q =>
    have := h0 x (by simp)
    simp only [durf, durfA]
    refine durfA_ge q _ _ ?_
    rw [if_pos (by simpa using this)]
    omega

theorem ev_DurfeeOf (d : List Int) (c : Bool) (hv : valid d = true) : Ev tb l_impl_DurfeeOf [] [L d c] [] ⟨I (durf (fall d)), [], [], []⟩ := by
  have hl := (valid_few hv).1
  have e1 := ev_lim (ev_SortDegrees d c hv)
  have hfl := fall_len d
  generalize fall d = s at *
  have loop : ∀ (m i k : Nat), i + m = s.length → k ≤ i → wp tb (.loop ic_impl_DurfeeOf_l8) { T := [(3, I k), (7, O s), (8, I s.length), (9, I i)], loc := [], M := [] }
      (fun ex st => ex = .exit 0 ∧ st = { T := [(3, I (durfA (s.drop i) i k)), (7, O s), (8, I s.length), (9, I s.length), (10, Bo false)], loc := [], M := [] }) := by
    intro m
    induction m with
    | zero =>
      intro i k hi hk
      obtain ⟨h1, h2⟩ := drop_end hi
      have h3 : i = s.length := hi
      subst h3
      refine wp_loop ?_
      repeat (first | apply wp_as | apply wp_ss | refine wr (by simp; with_reducible rfl) ?_ | refine wq (by simp; with_reducible rfl) ?_ | refine wt (by simpa) ?_ | refine wf (by simpa) ?_ | refine xt (by simpa) ?_ | refine xf (by simpa) ?_ | apply wp_bs | apply wp_b | refine wp_sr ?_ | refine wp_sx ?_ | refine wp_ret' ?_ | refine wp_skip' ?_ | refine wp_exit' ?_)
      rw [h2]; exact ⟨rfl, rfl⟩
    | succ m ih =>
      intro i k hi hk
      obtain ⟨hi2, h2, h3⟩ := drop_get hi
      have w2 : IntKind.i64.wrap ((i : Int) + 1) = ((i + 1 : Nat) : Int) := wrapS (by omega)
      rw [h2, durfA]
      by_cases hq : (i : Int) ≤ s[i]
      · rw [if_pos hq]
        refine wp_loop ?_
        repeat (first | apply wp_as | apply wp_ss | refine wr (by simp [hi2, hq, w2]; with_reducible rfl) ?_ | refine wq (by simp [hi2, hq, w2]; with_reducible rfl) ?_ | refine wt (by simpa [hi2, hq, w2]) ?_ | refine wf (by simpa [hi2, hq, w2]) ?_ | refine xt (by simpa [hi2, hq, w2]) ?_ | refine xf (by simpa [hi2, hq, w2]) ?_ | apply wp_bs | apply wp_b | refine wp_sr ?_ | refine wp_sx ?_ | refine wp_ret' ?_ | refine wp_skip' ?_ | refine wp_exit' ?_)
        exact ih (i + 1) (i + 1) (by omega) (by omega)
      · rw [if_neg hq]
        refine wp_loop ?_
        repeat (first | apply wp_as | apply wp_ss | refine wr (by simp [hi2, hq, w2]; with_reducible rfl) ?_ | refine wq (by simp [hi2, hq, w2]; with_reducible rfl) ?_ | refine wt (by simpa [hi2, hq, w2]) ?_ | refine wf (by simpa [hi2, hq, w2]) ?_ | refine xt (by simpa [hi2, hq, w2]) ?_ | refine xf (by simpa [hi2, hq, w2]) ?_ | apply wp_bs | apply wp_b | refine wp_sr ?_ | refine wp_sx ?_ | refine wp_ret' ?_ | refine wp_skip' ?_ | refine wp_exit' ?_)
        exact ih (i + 1) k (by omega) (by omega)
  refine call_of_wp tb_impl_DurfeeOf rfl ?_
  repeat (first | apply wp_as | apply wp_ss | refine wr (by simp [e1]; with_reducible rfl) ?_ | refine wq (by simp [e1]; with_reducible rfl) ?_ | refine wt (by simpa [e1]) ?_ | refine wf (by simpa [e1]) ?_ | refine xt (by simpa [e1]) ?_ | refine xf (by simpa [e1]) ?_ | apply wp_bs | apply wp_b | refine wp_sr ?_ | refine wp_sx ?_ | refine wp_ret' ?_ | refine wp_skip' ?_ | refine wp_exit' ?_)
  refine wp_imp (loop s.length 0 0 (by simp) (by omega)) ?_
  rintro ex st ⟨rfl, rfl⟩
  try simp only [if_true]
  repeat (first | apply wp_as | apply wp_ss | refine wr (by simp; with_reducible rfl) ?_ | refine wq (by simp; with_reducible rfl) ?_ | refine wt (by simpa) ?_ | refine wf (by simpa) ?_ | refine xt (by simpa) ?_ | refine xf (by simpa) ?_ | apply wp_bs | apply wp_b | refine wp_sr ?_ | refine wp_sx ?_ | refine wp_ret' ?_ | refine wp_skip' ?_ | refine wp_exit' ?_)
  simp [if_impl_DurfeeOf, durf]

/-- How far the slack at the Durfee number is from zero. -/
def splitt (d : List Int) : Int := if graphic d then (if d.length = 0 then 0 else ((slacks d).getD (durf (fall d) - 1) 0).tdiv 2) else -1

theorem ev_SplittanceOf (d : List Int) (c : Bool) (hl : d.length ≤ 1000000) : Ev tb l_impl_SplittanceOf [] [L d c] [] ⟨I (splitt d), [], [], []⟩ := by
  have e1 := ev_lim (ev_IsGraphic d c hl)
  cases hg : graphic d with
  | false =>
    refine call_of_wp tb_impl_SplittanceOf rfl ?_
    repeat (first | apply wp_as | apply wp_ss | refine wr (by simp [e1, hg]; with_reducible rfl) ?_ | refine wq (by simp [e1, hg]; with_reducible rfl) ?_ | refine wt (by simpa [e1, hg]) ?_ | refine wf (by simpa [e1, hg]) ?_ | refine xt (by simpa [e1, hg]) ?_ | refine xf (by simpa [e1, hg]) ?_ | apply wp_bs | apply wp_b | refine wp_sr ?_ | refine wp_sx ?_ | refine wp_ret' ?_ | refine wp_skip' ?_ | refine wp_exit' ?_)
    simp [if_impl_SplittanceOf, splitt, hg]
  | true =>
  by_cases h0 : d.length = 0
  · refine call_of_wp tb_impl_SplittanceOf rfl ?_
    repeat (first | apply wp_as | apply wp_ss | refine wr (by simp [e1, hg, h0]; with_reducible rfl) ?_ | refine wq (by simp [e1, hg, h0]; with_reducible rfl) ?_ | refine wt (by simpa [e1, hg, h0]) ?_ | refine wf (by simpa [e1, hg, h0]) ?_ | refine xt (by simpa [e1, hg, h0]) ?_ | refine xf (by simpa [e1, hg, h0]) ?_ | apply wp_bs | apply wp_b | refine wp_sr ?_ | refine wp_sx ?_ | refine wp_ret' ?_ | refine wp_skip' ?_ | refine wp_exit' ?_)
    simp [if_impl_SplittanceOf, splitt, hg, h0]
  have hv : valid d = true := by simp only [graphic, Bool.and_eq_true] at hg; exact hg.1.1
  have hf := valid_few hv
  have e2 := ev_lim (ev_SlacksOf d c hv)
  have e3 := ev_lim (ev_DurfeeOf d c hv)
  have hd1 := durf_le (fall d)
  have hd2 : 1 ≤ durf (fall d) := durf_ge (fun h => h0 (by rw [← fall_len, h]; rfl)) (fun x hx => (hf.fall.2 x hx).1)
  rw [fall_len] at hd1
  have hsl := slacks_len d
  have hb : ∀ x ∈ slacks d, -100 ≤ x ∧ x ≤ 200 := by
    intro x hx
    simp only [slacks, List.mem_map, List.mem_range] at hx
    obtain ⟨i, hi, rfl⟩ := hx
    exact slk_bound (by have := hf.1; omega) hf.fall.1 hf.fall.2
  obtain ⟨k, hk⟩ : ∃ k, durf (fall d) = k + 1 := ⟨durf (fall d) - 1, by omega⟩
  have w1 : IntKind.i64.wrap (k : Int) = (k : Int) := wrap64 (by omega) (by omega)
  have hk2 : k < (slacks d).length := by omega
  have hx := hb _ (List.getElem_mem hk2)
  have hnn : 0 ≤ (slacks d)[k] := by
    have hg2 := hg
    simp only [graphic, Bool.and_eq_true, List.all_eq_true, decide_eq_true_eq] at hg2
    exact hg2.2 _ (List.getElem_mem hk2)
  have w2 : IntKind.i64.wrap (((slacks d)[k]).tdiv 2) = ((slacks d)[k]).tdiv 2 := by
    rw [Int.tdiv_eq_ediv_of_nonneg hnn]; exact wrap64 (by omega) (by omega)
  have hs : splitt d = ((slacks d)[k]).tdiv 2 := by
    rw [splitt, hg, hk, Nat.add_sub_cancel]
    simp only [if_true, h0, if_false, List.getD_eq_getElem?_getD, List.getElem?_eq_getElem hk2, Option.getD_some]
  rw [hk] at e3
  refine call_of_wp tb_impl_SplittanceOf rfl ?_
  repeat (first | apply wp_as | apply wp_ss | refine wr (by simp [e1, hg, h0, e2, e3, w1, hk2, w2]; with_reducible rfl) ?_ | refine wq (by simp [e1, hg, h0, e2, e3, w1, hk2, w2]; with_reducible rfl) ?_ | refine wt (by simpa [e1, hg, h0, e2, e3, w1, hk2, w2]) ?_ | refine wf (by simpa [e1, hg, h0, e2, e3, w1, hk2, w2]) ?_ | refine xt (by simpa [e1, hg, h0, e2, e3, w1, hk2, w2]) ?_ | refine xf (by simpa [e1, hg, h0, e2, e3, w1, hk2, w2]) ?_ | apply wp_bs | apply wp_b | refine wp_sr ?_ | refine wp_sx ?_ | refine wp_ret' ?_ | refine wp_skip' ?_ | refine wp_exit' ?_)
  simp [if_impl_SplittanceOf, hs]

theorem ev_IsSplit (d : List Int) (c : Bool) (hl : d.length ≤ 1000000) : Ev tb l_impl_IsSplit [] [L d c] [] ⟨Bo (decide (splitt d = 0)), [], [], []⟩ := by
  have e1 := ev_lim (ev_SplittanceOf d c hl)
  refine call_of_wp tb_impl_IsSplit rfl ?_
  repeat (first | apply wp_as | apply wp_ss | refine wr (by simp [e1]; with_reducible rfl) ?_ | refine wq (by simp [e1]; with_reducible rfl) ?_ | refine wt (by simpa [e1]) ?_ | refine wf (by simpa [e1]) ?_ | refine xt (by simpa [e1]) ?_ | refine xf (by simpa [e1]) ?_ | apply wp_bs | apply wp_b | refine wp_sr ?_ | refine wp_sx ?_ | refine wp_ret' ?_ | refine wp_skip' ?_ | refine wp_exit' ?_)
  simp [if_impl_IsSplit]
  rfl

end Go.Idl

namespace Go.Idl

open Go

theorem cgE_sub (s : ByteArray) : (cgE s).Sublist (prs s.size) := List.filter_sublist

theorem low_degs {n : Nat} {es : List (Int × Int)} (h : es.length ≤ 100) : Low 1000 (degs n es) := by
  intro x hx
  have := dfold_bound es (List.replicate n 0) 0 (by intro x hx; have := List.eq_of_mem_replicate hx; omega) (by omega) x hx
  omega

theorem ev_DrawIsThreshold (code : List Int) (c : Bool) (h : ∀ x ∈ code, 0 ≤ x ∧ x ≤ 255) (hl : code.length ≤ 10000000) :
    ∃ d : List Int, d.length ≤ 8 ∧ Low 1000 d ∧ limF tb l_spec_DrawIsThreshold [] [.lst 1 (bytes code) c] [] = some ⟨O d, [], [], []⟩ := by
  obtain ⟨c', e⟩ := ev_newReader code c [[]] (by omega)
  have e1 := ev_lim e
  obtain ⟨v, k1, hv, hk1, e2⟩ := pick' (code.take 2000) c' (code_ok h) 0 (by omega) 3 (by omega) [] []
  rw [show ((0 : Nat) : Int) = 0 from rfl] at e2
  have hdl : ∀ n es, (degs n es).length = n := fun n es => by rw [degs, dfold_len]; simp
  by_cases hv0 : v = 0
  · subst hv0
    obtain ⟨d, k, h1, h2, h3, e3⟩ := ev_fewDegrees (code.take 2000) c' (code_ok h) k1 (by omega) [] []
    refine ⟨d, h1, h2, ev_lim ?_⟩
    refine call_of_wp tb_spec_DrawIsThreshold rfl ?_
    repeat (first | apply wp_as | apply wp_ss | refine wr (by simp [e1, e2, e3]; with_reducible rfl) ?_ | refine wq (by simp [e1, e2, e3]; with_reducible rfl) ?_ | refine wt (by simpa [e1, e2, e3]) ?_ | refine wf (by simpa [e1, e2, e3]) ?_ | refine xt (by simpa [e1, e2, e3]) ?_ | refine xf (by simpa [e1, e2, e3]) ?_ | apply wp_bs | apply wp_b | refine wp_sr ?_ | refine wp_sx ?_ | refine wp_ret' ?_ | refine wp_skip' ?_ | refine wp_exit' ?_)
    simp [if_spec_DrawIsThreshold]
  have hv0' : ¬ (v : Int) = 0 := by omega
  obtain ⟨s, k2, hs1, hs2, hk2, e3⟩ := ev_aCode (code.take 2000) c' (code_ok h) k1 (by omega) [] []
  have e4 := ev_lim (ev_codeGraph s hs2)
  have hsub := cgE_sub s
  have hel := prs_len (by omega) hsub
  have hin := prs_in hsub
  by_cases hv1 : v = 1
  · subst hv1
    have e5 := ev_lim (ev_degrees s.size (cgE s) false (by omega) (by omega) hin)
    obtain ⟨d, k3, h1, h2, hk3, e6⟩ := ev_lifted (code.take 2000) c' (code_ok h) k2 (by omega) (degs s.size (cgE s)) (by rw [hdl]; omega) (low_degs (by omega)) [] []
    rw [hdl] at h1
    refine ⟨d, by omega, h2, ev_lim ?_⟩
    generalize degs s.size (cgE s) = D at *
    generalize cgE s = E at *
    refine call_of_wp tb_spec_DrawIsThreshold rfl ?_
    repeat (first | apply wp_as | apply wp_ss | refine wr (by simp [e1, e2, e3, e4, e5, e6]; with_reducible rfl) ?_ | refine wq (by simp [e1, e2, e3, e4, e5, e6]; with_reducible rfl) ?_ | refine wt (by simpa [e1, e2, e3, e4, e5, e6]) ?_ | refine wf (by simpa [e1, e2, e3, e4, e5, e6]) ?_ | refine xt (by simpa [e1, e2, e3, e4, e5, e6]) ?_ | refine xf (by simpa [e1, e2, e3, e4, e5, e6]) ?_ | apply wp_bs | apply wp_b | refine wp_sr ?_ | refine wp_sx ?_ | refine wp_ret' ?_ | refine wp_skip' ?_ | refine wp_exit' ?_)
    simp [if_spec_DrawIsThreshold]
  have hv1' : ¬ (v : Int) = 1 := by omega
  obtain ⟨out, k3, h1, h2, hk3, e5⟩ := ev_moved (code.take 2000) c' (code_ok h) k2 (by omega) s.size hs2 (cgE s) false hin (by omega) [] []
  have e6 := ev_lim (ev_degrees s.size out false (by omega) (by omega) h2)
  refine ⟨degs s.size out, by rw [hdl]; omega, low_degs (by omega), ev_lim ?_⟩
  generalize degs s.size out = D at *
  generalize cgE s = E at *
  refine call_of_wp tb_spec_DrawIsThreshold rfl ?_
  repeat (first | apply wp_as | apply wp_ss | refine wr (by simp [e1, e2, e3, e4, e5, e6, hv0, hv0', hv1, hv1']; with_reducible rfl) ?_ | refine wq (by simp [e1, e2, e3, e4, e5, e6, hv0, hv0', hv1, hv1']; with_reducible rfl) ?_ | refine wt (by simpa [e1, e2, e3, e4, e5, e6, hv0, hv0', hv1, hv1']) ?_ | refine wf (by simpa [e1, e2, e3, e4, e5, e6, hv0, hv0', hv1, hv1']) ?_ | refine xt (by simpa [e1, e2, e3, e4, e5, e6, hv0, hv0', hv1, hv1']) ?_ | refine xf (by simpa [e1, e2, e3, e4, e5, e6, hv0, hv0', hv1, hv1']) ?_ | apply wp_bs | apply wp_b | refine wp_sr ?_ | refine wp_sx ?_ | refine wp_ret' ?_ | refine wp_skip' ?_ | refine wp_exit' ?_)
  simp [if_spec_DrawIsThreshold]

/-- What the law FnIsThreshold says of degrees. -/
structure ThrLaw (d : List Int) : Prop where
  com : thr (comp d) = thr d
  one : d.length ≤ 6 → decide ((reals d).length = 1) = thr d
  spl : thr d = true → splitt d = 0

theorem ev_FnIsThreshold (law : ∀ d, valid d = true → ThrLaw d) (code : List Int) (c : Bool) (h : ∀ x ∈ code, 0 ≤ x ∧ x ≤ 255) :
    Ev tb l_laws_FnIsThreshold [] [.lst 1 (bytes code) c] [] ⟨Bo true, [], [], []⟩ := by
  by_cases hc : (1048576 : Int) < code.length
  · refine call_of_wp tb_laws_FnIsThreshold rfl ?_
    repeat (first | apply wp_as | apply wp_ss | refine wr (by simp [hc]; with_reducible rfl) ?_ | refine wq (by simp [hc]; with_reducible rfl) ?_ | refine wt (by simpa [hc]) ?_ | refine wf (by simpa [hc]) ?_ | refine xt (by simpa [hc]) ?_ | refine xf (by simpa [hc]) ?_ | apply wp_bs | apply wp_b | refine wp_sr ?_ | refine wp_sx ?_ | refine wp_ret' ?_ | refine wp_skip' ?_ | refine wp_exit' ?_)
    simp [if_laws_FnIsThreshold]
  obtain ⟨d, hd, hlo, e1⟩ := ev_DrawIsThreshold code c h (by omega)
  have v1 := ev_lim (ev_ValidDegrees d false (by omega))
  have e2 := ev_lim (ev_IsThreshold d false (by omega))
  have e3 := ev_lim (ev_spec_IsThreshold d false (by omega))
  cases hv : valid d with
  | false =>
    rw [hv] at v1
    generalize thr d = b at *
    refine call_of_wp tb_laws_FnIsThreshold rfl ?_
    repeat (first | apply wp_as | apply wp_ss | refine wr (by simp [hc, e1, e2, e3, v1]; with_reducible rfl) ?_ | refine wq (by simp [hc, e1, e2, e3, v1]; with_reducible rfl) ?_ | refine wt (by simpa [hc, e1, e2, e3, v1]) ?_ | refine wf (by simpa [hc, e1, e2, e3, v1]) ?_ | refine xt (by simpa [hc, e1, e2, e3, v1]) ?_ | refine xf (by simpa [hc, e1, e2, e3, v1]) ?_ | apply wp_bs | apply wp_b | refine wp_sr ?_ | refine wp_sx ?_ | refine wp_ret' ?_ | refine wp_skip' ?_ | refine wp_exit' ?_)
    simp [if_laws_FnIsThreshold]
  | true =>
  rw [hv] at v1
  obtain ⟨l1, l2, l3⟩ := law d hv
  have hcl : (comp d).length = d.length := by simp [comp]
  have e4 := ev_lim (ev_Complement d false hv)
  have e5 := ev_lim (ev_IsThreshold (comp d) false (by omega))
  rw [l1] at e5
  have e6 := ev_lim (ev_IsSplit d false (by omega))
  generalize comp d = cd at *
  generalize splitt d = sp at *
  by_cases h6 : (6 : Int) < d.length
  · cases ht : thr d with
    | false =>
      rw [ht] at e2 e3 e5
      refine call_of_wp tb_laws_FnIsThreshold rfl ?_
      repeat (first | apply wp_as | apply wp_ss | refine wr (by simp [hc, e1, e2, e3, v1, e4, e5, h6]; with_reducible rfl) ?_ | refine wq (by simp [hc, e1, e2, e3, v1, e4, e5, h6]; with_reducible rfl) ?_ | refine wt (by simpa [hc, e1, e2, e3, v1, e4, e5, h6]) ?_ | refine wf (by simpa [hc, e1, e2, e3, v1, e4, e5, h6]) ?_ | refine xt (by simpa [hc, e1, e2, e3, v1, e4, e5, h6]) ?_ | refine xf (by simpa [hc, e1, e2, e3, v1, e4, e5, h6]) ?_ | apply wp_bs | apply wp_b | refine wp_sr ?_ | refine wp_sx ?_ | refine wp_ret' ?_ | refine wp_skip' ?_ | refine wp_exit' ?_)
      simp [if_laws_FnIsThreshold]
    | true =>
      rw [ht] at e2 e3 e5
      rw [l3 ht] at e6
      refine call_of_wp tb_laws_FnIsThreshold rfl ?_
      repeat (first | apply wp_as | apply wp_ss | refine wr (by simp [hc, e1, e2, e3, v1, e4, e5, h6, e6]; with_reducible rfl) ?_ | refine wq (by simp [hc, e1, e2, e3, v1, e4, e5, h6, e6]; with_reducible rfl) ?_ | refine wt (by simpa [hc, e1, e2, e3, v1, e4, e5, h6, e6]) ?_ | refine wf (by simpa [hc, e1, e2, e3, v1, e4, e5, h6, e6]) ?_ | refine xt (by simpa [hc, e1, e2, e3, v1, e4, e5, h6, e6]) ?_ | refine xf (by simpa [hc, e1, e2, e3, v1, e4, e5, h6, e6]) ?_ | apply wp_bs | apply wp_b | refine wp_sr ?_ | refine wp_sx ?_ | refine wp_ret' ?_ | refine wp_skip' ?_ | refine wp_exit' ?_)
      simp [if_laws_FnIsThreshold]
  · have e7 := ev_lim (ev_CountRealizations d false hv (by omega))
    have l2 := l2 (by omega)
    generalize (reals d).length = m at *
    cases ht : thr d with
    | false =>
      rw [ht] at e2 e3 e5 l2
      have hm : ¬ m = 1 := by simpa using l2
      have hm' : ¬ (m : Int) = 1 := by omega
      refine call_of_wp tb_laws_FnIsThreshold rfl ?_
      repeat (first | apply wp_as | apply wp_ss | refine wr (by simp [hc, e1, e2, e3, v1, e4, e5, h6, e7, hm, hm']; with_reducible rfl) ?_ | refine wq (by simp [hc, e1, e2, e3, v1, e4, e5, h6, e7, hm, hm']; with_reducible rfl) ?_ | refine wt (by simpa [hc, e1, e2, e3, v1, e4, e5, h6, e7, hm, hm']) ?_ | refine wf (by simpa [hc, e1, e2, e3, v1, e4, e5, h6, e7, hm, hm']) ?_ | refine xt (by simpa [hc, e1, e2, e3, v1, e4, e5, h6, e7, hm, hm']) ?_ | refine xf (by simpa [hc, e1, e2, e3, v1, e4, e5, h6, e7, hm, hm']) ?_ | apply wp_bs | apply wp_b | refine wp_sr ?_ | refine wp_sx ?_ | refine wp_ret' ?_ | refine wp_skip' ?_ | refine wp_exit' ?_)
      simp [if_laws_FnIsThreshold]
    | true =>
      rw [ht] at e2 e3 e5 l2
      rw [l3 ht] at e6
      have hm : m = 1 := by simpa using l2
      subst hm
      refine call_of_wp tb_laws_FnIsThreshold rfl ?_
      repeat (first | apply wp_as | apply wp_ss | refine wr (by simp [hc, e1, e2, e3, v1, e4, e5, h6, e7, e6]; with_reducible rfl) ?_ | refine wq (by simp [hc, e1, e2, e3, v1, e4, e5, h6, e7, e6]; with_reducible rfl) ?_ | refine wt (by simpa [hc, e1, e2, e3, v1, e4, e5, h6, e7, e6]) ?_ | refine wf (by simpa [hc, e1, e2, e3, v1, e4, e5, h6, e7, e6]) ?_ | refine xt (by simpa [hc, e1, e2, e3, v1, e4, e5, h6, e7, e6]) ?_ | refine xf (by simpa [hc, e1, e2, e3, v1, e4, e5, h6, e7, e6]) ?_ | apply wp_bs | apply wp_b | refine wp_sr ?_ | refine wp_sx ?_ | refine wp_ret' ?_ | refine wp_skip' ?_ | refine wp_exit' ?_)
      simp [if_laws_FnIsThreshold]

end Go.Idl

namespace Go.Idl

def insP (x : Nat × Nat) : List (Nat × Nat) → List (Nat × Nat)
  | [] => [x]
  | y :: r => if Nat.ble y.1 x.1 then x :: y :: r else y :: insP x r

/-- Pairs by laying off the first, again and again. -/
def hh : Nat → List (Nat × Nat) → List (Nat × Nat)
  | 0, _ => []
  | _ + 1, [] => []
  | m + 1, x :: r => (r.take x.1).map (fun y : Nat × Nat => (x.2, y.2)) ++ hh m ((((r.take x.1).map (fun y : Nat × Nat => (y.1 - 1, y.2)) ++ r.drop x.1 : List (Nat × Nat))).foldr insP [])

theorem getD_zero_all {left : List Int} {N : Nat} (hl : left.length = N) : left.all (fun x => decide (x = 0)) = true ↔ ∀ v, v < N → (0 : Int) = left.getD v 0 := by
  rw [List.all_eq_true]
  constructor
  · intro h v hv
    rw [List.getD_eq_getElem?_getD, List.getElem?_eq_getElem (by omega)]
    have := of_decide_eq_true (h _ (List.getElem_mem (show v < left.length by omega)))
    simp [this]
  · intro h x hx
    obtain ⟨v, hv, rfl⟩ := List.getElem_of_mem hx
    have := h v (by omega)
    rw [List.getD_eq_getElem?_getD, List.getElem?_eq_getElem hv] at this
    simpa using this.symm

theorem decAt_get {o : List Int} {i v : Nat} (hv : v < o.length) : (decAt o i).getD v 0 = o.getD v 0 - (if i = v then 1 else 0) := by
  rw [decAt, List.getD_eq_getElem?_getD, List.getElem?_set]
  by_cases h : i = v
  · subst h; simp [hv, List.getD_eq_getElem?_getD]
  · simp [h, List.getD_eq_getElem?_getD]

theorem inc_nonneg (v : Nat) (e : Int × Int) : 0 ≤ inc v e := by simp only [inc]; split <;> split <;> decide

theorem mem_subs {N : Nat} : ∀ (r : List (Int × Int)) (left : List Int) (ch g : List (Int × Int)), (∀ e ∈ r, 0 ≤ e.1 ∧ e.1 < e.2 ∧ e.2 < N) → left.length = N →
    (g ∈ subs r left ch ↔ ∃ s : List (Int × Int), s.Sublist r ∧ g = ch ++ s ∧ ∀ v, v < N → deg s v = left.getD v 0)
  | [], left, ch, g, _, hl => by
    rw [subs]
    constructor
    · intro h
      split at h
      · rename_i hz
        simp at h
        subst h
        exact ⟨[], List.Sublist.refl _, by simp, fun v hv => (getD_zero_all hl).1 hz v hv⟩
      · simp at h
    · rintro ⟨s, hs, rfl, hd⟩
      have : s = [] := by simpa using hs
      subst this
      rw [if_pos ((getD_zero_all hl).2 fun v hv => hd v hv)]
      simp
  | e :: r, left, ch, g, hr, hl => by
    have he := hr e (by simp)
    have hr' : ∀ x ∈ r, 0 ≤ x.1 ∧ x.1 < x.2 ∧ x.2 < N := fun x hx => hr x (by simp [hx])
    have hdl : (decAt (decAt left e.1.toNat) e.2.toNat).length = N := by simp [decAt, hl]
    have hget : ∀ v, v < N → (decAt (decAt left e.1.toNat) e.2.toNat).getD v 0 = left.getD v 0 - inc v e := fun v hv => by
      rw [decAt_get (by simp [decAt]; omega), decAt_get (by omega), inc]
      have c1 : (e.1.toNat = v) = (e.1 = (v : Int)) := by rw [eq_iff_iff]; omega
      have c2 : (e.2.toNat = v) = (e.2 = (v : Int)) := by rw [eq_iff_iff]; omega
      simp only [c1, c2]; omega
    rw [subs, List.mem_append]
    constructor
    · rintro (h | h)
      · split at h
        rotate_left
        · simp at h
        obtain ⟨s, hs, rfl, hd⟩ := (mem_subs r _ _ g hr' hdl).1 h
        refine ⟨e :: s, hs.cons_cons e, by simp, fun v hv => ?_⟩
        have h1 := hd v hv
        rw [hget v hv] at h1
        rw [deg, S_cons]
        have h2 : S s (inc v) = left.getD v 0 - inc v e := h1
        rw [h2]; omega
      · obtain ⟨s, hs, rfl, hd⟩ := (mem_subs r _ _ g hr' hl).1 h
        exact ⟨s, hs.cons e, rfl, hd⟩
    · rintro ⟨s, hs, rfl, hd⟩
      rcases List.sublist_cons_iff.1 hs with hs2 | ⟨s', rfl, hs2⟩
      · exact .inr ((mem_subs r _ _ _ hr' hl).2 ⟨s, hs2, rfl, hd⟩)
      · refine .inl ?_
        have hd' : ∀ v, v < N → inc v e + deg s' v = left.getD v 0 := fun v hv => by
          rw [← hd v hv, deg, deg, S_cons]
        have pos : ∀ x : Int, 0 ≤ x → x < N → (e.1 = x ∨ e.2 = x) → 0 < left.getD x.toNat 0 := fun x h0 h1 h2 => by
          have h3 := hd' x.toNat (by omega)
          have h4 : 0 ≤ deg s' x.toNat := S_nonneg fun y _ => inc_nonneg _ y
          have h5 : 1 ≤ inc x.toNat e := by
            simp only [inc, show ((x.toNat : Nat) : Int) = x by omega]
            rcases h2 with h2 | h2
            · rw [if_pos h2]; split <;> decide
            · rw [if_pos h2]; split <;> decide
          omega
        rw [if_pos ⟨pos e.1 (by omega) (by omega) (.inl rfl), pos e.2 (by omega) (by omega) (.inr rfl)⟩]
        refine (mem_subs r _ _ _ hr' hdl).2 ⟨s', hs2, by simp, fun v hv => ?_⟩
        rw [hget v hv, ← hd' v hv]; omega

theorem ite_iff {α : Type} {p q : Prop} [Decidable p] [Decidable q] (h : p ↔ q) (a b : α) : (if p then a else b) = if q then a else b := by
  by_cases hp : p
  · rw [if_pos hp, if_pos (h.1 hp)]
  · rw [if_neg hp, if_neg fun hq => hp (h.2 hq)]

/- Degrees of a graph of a relation. -/

def mk (u v : Nat) : Int × Int := (min (u : Int) v, max (u : Int) v)

theorem inc_mk_all : (List.range 8).all (fun n => (prs n).all fun e => (List.range n).all fun v => decide (inc v e = S (List.range n) (fun u => if u = v then 0 else if e = mk u v then 1 else 0))) = true := by decide +kernel

theorem inc_mk {n : Nat} (hn : n ≤ 7) {e : Int × Int} (he : e ∈ prs n) {v : Nat} (hv : v < n) : inc v e = S (List.range n) (fun u => if u = v then 0 else if e = mk u v then 1 else 0) := by
  have := List.all_eq_true.1 (List.all_eq_true.1 (List.all_eq_true.1 inc_mk_all n (List.mem_range.2 (by omega))) e he) v (List.mem_range.2 hv)
  exact of_decide_eq_true this

theorem S_ite {α : Type} (l : List α) (p : α → Bool) (f : α → Int) : S (l.filter p) f = S l (fun a => if p a then f a else 0) := by
  induction l with
  | nil => rfl
  | cons a l ih =>
    rw [List.filter_cons, S_cons]
    split <;> rename_i h
    · rw [S_cons, ih]
    · rw [ih]; omega

theorem mk_mem {n u v : Nat} (hu : u < n) (hv : v < n) (h : u ≠ v) : mk u v ∈ prs n := mem_prs.2 (by simp only [mk]; omega)

theorem deg_filter {n : Nat} (hn : n ≤ 7) (p : Int × Int → Bool) {v : Nat} (hv : v < n) : deg ((prs n).filter p) v = S (List.range n) (fun u => if u = v then 0 else if p (mk u v) then 1 else 0) := by
  rw [deg, S_ite, S_congr (g := fun e => S (List.range n) (fun u => if u = v then 0 else if e = mk u v then (if p (mk u v) then 1 else 0) else 0)) fun e he => ?_, S_swap]
  · refine S_congr fun u hu => ?_
    have hu := List.mem_range.1 hu
    by_cases huv : u = v
    · simp only [huv, if_true]; exact S_zero _
    · simp only [if_neg huv]
      have hm := mk_mem hu hv huv
      have h1 := S_one (pw_nodup (prs_pw n)) (mk u v)
      rw [if_pos hm] at h1
      by_cases hp : p (mk u v) = true
      · simp only [hp, if_true]
        exact Eq.trans (S_congr fun e _ => ite_iff eq_comm _ _) h1
      · simp only [if_neg hp, ite_self]; exact S_zero _
  · rw [inc_mk hn he hv]
    by_cases hp : p e = true
    · rw [if_pos hp]
      refine S_congr fun u _ => ?_
      by_cases huv : u = v
      · simp [huv]
      · simp only [if_neg huv]
        by_cases hem : e = mk u v
        · rw [if_pos hem, if_pos hem, ← hem, if_pos hp]
        · rw [if_neg hem, if_neg hem]
    · rw [if_neg hp]
      symm
      rw [S_congr (g := fun _ => 0), S_zero]
      intro u _
      by_cases huv : u = v
      · simp [huv]
      · simp only [if_neg huv]
        by_cases hem : e = mk u v
        · rw [if_pos hem, ← hem, if_neg hp]
        · rw [if_neg hem]

theorem mk_comm (u v : Nat) : mk u v = mk v u := Prod.ext (by simp only [mk]; omega) (by simp only [mk]; omega)

end Go.Idl

namespace Go.Idl

theorem deg_degs {n : Nat} {s : List (Int × Int)} (hs : s.Sublist (prs n)) {d : List Int} (hl : d.length = n) : (∀ v, v < n → deg s v = d.getD v 0) ↔ degs n s = d := by
  rw [degs_eq (prs_in hs)]
  constructor
  · intro h
    refine List.ext_getElem (by simp [hl]) fun v h1 h2 => ?_
    rw [List.getElem_map, List.getElem_range, h v (by omega), List.getD_eq_getElem?_getD, List.getElem?_eq_getElem h2]; rfl
  · intro h v hv
    rw [← h, List.getD_eq_getElem?_getD, List.getElem?_map, List.getElem?_range hv]; rfl

/-- The search finds the valid graphs with the degrees. -/
theorem mem_reals {d : List Int} (h7 : d.length ≤ 7) (g : List (Int × Int)) : g ∈ reals d ↔ vGraph d.length g = true ∧ degs d.length g = d := by
  rw [reals, mem_subs (N := d.length) _ _ _ _ (fun e he => mem_prs.1 he) rfl]
  constructor
  · rintro ⟨s, hs, rfl, hd⟩
    exact ⟨vG_iff.2 ⟨(prs_pw _).sublist hs, fun e he => hs.mem he, h7⟩, (deg_degs hs rfl).1 hd⟩
  · rintro ⟨h1, h2⟩
    exact ⟨g, vG_sub h1, rfl, (deg_degs (vG_sub h1) rfl).2 h2⟩

end Go.Idl

namespace Go.Idl

/-- Only the part from a up to b was changed, and in order only. -/
structure Seg {α : Type} (X X' : List α) (a b : Nat) : Prop where
  perm : X'.Perm X
  out : ∀ k, k < a ∨ b ≤ k → X'[k]? = X[k]?

theorem Seg.len {α : Type} {X X' : List α} {a b : Nat} (h : Seg X X' a b) : X'.length = X.length := h.perm.length_eq

theorem Seg.refl {α : Type} (X : List α) (a b : Nat) : Seg X X a b := ⟨.refl _, fun _ _ => rfl⟩

theorem Seg.trans {α : Type} {X Y Z : List α} {a b : Nat} (h : Seg X Y a b) (k : Seg Y Z a b) : Seg X Z a b := ⟨k.perm.trans h.perm, fun i hi => (k.out i hi).trans (h.out i hi)⟩

theorem Seg.nodup {α : Type} {X Y : List α} {a b : Nat} (h : Seg X Y a b) (hn : X.Nodup) : Y.Nodup := h.perm.nodup_iff.2 hn

/-- Two places changed. -/
def swapL {α : Type} (X : List α) (i j : Nat) (hi : i < X.length) (hj : j < X.length) : List α := (X.set i X[j]).set j X[i]

theorem swapL_len {α : Type} (X : List α) (i j : Nat) (hi hj) : (swapL X i j hi hj).length = X.length := by simp [swapL]

theorem swapL_get {α : Type} (X : List α) (i j : Nat) (hi : i < X.length) (hj : j < X.length) (k : Nat) : (swapL X i j hi hj)[k]? = if k = j then some X[i] else if k = i then some X[j] else X[k]? := by
  rw [swapL, List.getElem?_set, List.getElem?_set]
  by_cases h1 : k = j
  · subst h1; simp [hj]
  · by_cases h2 : k = i
    · subst h2; simp [hi, h1, Ne.symm h1]
    · simp [h1, h2, Ne.symm h1, Ne.symm h2]

theorem swapL_perm {α : Type} (X : List α) (i j : Nat) (hi : i < X.length) (hj : j < X.length) : (swapL X i j hi hj).Perm X := by
  exact List.set_set_perm hi hj

theorem swapL_seg {α : Type} (X : List α) (i j a b : Nat) (hi : i < X.length) (hj : j < X.length) (h1 : a ≤ i ∧ i < b) (h2 : a ≤ j ∧ j < b) : Seg X (swapL X i j hi hj) a b :=
  ⟨swapL_perm X i j hi hj, fun k hk => by rw [swapL_get, if_neg (by omega), if_neg (by omega)]⟩

/-- What stands in the part stood there. -/
theorem Seg.back {α : Type} {X Y : List α} {a b : Nat} (h : Seg X Y a b) (hn : X.Nodup) {k : Nat} (hk : a ≤ k ∧ k < b) {e : α} (he : Y[k]? = some e) : ∃ l, (a ≤ l ∧ l < b) ∧ X[l]? = some e := by
  have hm : e ∈ X := h.perm.mem_iff.1 (List.mem_of_getElem? he)
  obtain ⟨l, hl, rfl⟩ := List.getElem_of_mem hm
  by_cases hlb : a ≤ l ∧ l < b
  · exact ⟨l, hlb, List.getElem?_eq_getElem hl⟩
  · have h1 := h.out l (by omega)
    rw [List.getElem?_eq_getElem hl] at h1
    have hny := h.nodup hn
    have hkl : k < Y.length := (List.getElem?_eq_some_iff.1 he).1
    have hll : l < Y.length := by rw [h.len]; exact hl
    have h2 := (List.getElem?_eq_some_iff.1 he).2
    have h3 := (List.getElem?_eq_some_iff.1 h1).2
    have h4 : k = l := (List.getElem_inj hny).1 (h2.trans h3.symm)
    omega

end Go.Idl

namespace Go.Idl

open Go

def BelowOn (X : List (Int × Int)) (lo hi : Nat) (x : Int × Int) : Prop := ∀ k e, lo ≤ k → k < hi → X[k]? = some e → below e x = true

def AboveOn (X : List (Int × Int)) (lo hi : Nat) (x : Int × Int) : Prop := ∀ k e, lo ≤ k → k < hi → X[k]? = some e → below e x = false

theorem AboveOn.cons {X : List (Int × Int)} {lo hi : Nat} {x : Int × Int} (h : AboveOn X (lo + 1) hi x) (hl : lo < X.length) (hb : below X[lo] x = false) : AboveOn X lo hi x := fun k e h1 h2 he => by
  by_cases hk : k = lo
  · subst hk
    rw [List.getElem?_eq_getElem hl] at he
    cases he; exact hb
  · exact h k e (by omega) h2 he

/-- What the parting keeps. -/
structure PInv (X0 X : List (Int × Int)) (a b i j : Nat) (x : Int × Int) : Prop where
  seg : Seg X0 X a b
  piv : X[a]? = some x
  lo : BelowOn X (a + 1) i x
  hi : AboveOn X (j + 1) b x
  ai : a + 1 ≤ i
  ij : i ≤ j + 1
  jb : j < b
  bl : b ≤ X.length

theorem PInv.swap {X0 X a b i j x} (h : PInv X0 X a b i j x) (hi : i < X.length) (hj : j < X.length) (hij : i ≤ j) (h1 : below X[i] x = false) (h2 : below X[j] x = true) :
    ∃ q, j = q + 1 ∧ i < j ∧ PInv X0 (swapL X i j hi hj) a b (i + 1) q x := by
  have hne : i ≠ j := by rintro rfl; rw [h1] at h2; cases h2
  have hb := h.bl
  have hjb := h.jb
  have hai := h.ai
  refine ⟨j - 1, by omega, by omega, h.seg.trans (swapL_seg X i j a b hi hj (by omega) (by omega)), ?_, ?_, ?_, by omega, by omega, by omega, by rw [swapL_len]; exact hb⟩
  · rw [swapL_get, if_neg (by omega), if_neg (by omega)]; exact h.piv
  · intro k e k1 k2 he
    rw [swapL_get, if_neg (by omega)] at he
    by_cases hk : k = i
    · rw [if_pos hk] at he
      cases he; exact h2
    · rw [if_neg hk] at he
      exact h.lo k e k1 (by omega) he
  · intro k e k1 k2 he
    rw [swapL_get] at he
    by_cases hk : k = j
    · rw [if_pos hk] at he
      cases he; exact h1
    · rw [if_neg hk, if_neg (by omega)] at he
      exact h.hi k e (by omega) k2 he

end Go.Idl

namespace Go.Idl

open Go

/-- A small graph, valid or not. -/
structure SmallG (n : Int) (es : List (Int × Int)) : Prop where
  n1 : -1 ≤ n
  n2 : n ≤ 8
  len : es.length ≤ 60
  el : ∀ e ∈ es, -1 ≤ e.1 ∧ e.1 ≤ 8 ∧ -1 ≤ e.2 ∧ e.2 ≤ 8

theorem SmallG.fit {n es} (h : SmallG n es) : Fit es := fun e he => by have := h.el e he; omega

end Go.Idl

namespace Go.Idl

/-- Laying off by numbers alone, of falling lists. -/
def hv : Nat → List Int → Bool
  | 0, _ => true
  | _ + 1, [] => true
  | m + 1, x :: r => decide (x ≤ r.length) && (r.take x.toNat).all (fun y => !decide (y = 0)) && hv m (fall ((r.take x.toNat).map (fun y => y - 1) ++ r.drop x.toNat))

end Go.Idl

namespace Go.Idl

theorem len_sub {α : Type} [DecidableEq α] : ∀ {l k : List α}, l.Nodup → (∀ x ∈ l, x ∈ k) → l.length ≤ k.length
  | [], _, _, _ => by simp
  | a :: l, k, hn, hs => by
    have hn' := List.nodup_cons.1 hn
    have h1 := len_sub (l := l) (k := k.erase a) hn'.2 (fun x hx => (List.mem_erase_of_ne (fun h => hn'.1 (by rw [← h]; exact hx))).2 (hs x (by simp [hx])))
    have h2 := List.length_erase_of_mem (hs a (by simp))
    have h3 : 0 < k.length := List.length_pos_of_mem (hs a (by simp))
    simp only [List.length_cons]; omega

theorem len_inj {α β : Type} [DecidableEq β] {l : List α} {k : List β} (f : α → β) (hn : l.Nodup) (hi : ∀ x ∈ l, ∀ y ∈ l, f x = f y → x = y) (hf : ∀ x ∈ l, f x ∈ k) : l.length ≤ k.length := by
  have h1 : (l.map f).Nodup := by
    rw [List.Nodup, List.pairwise_map]
    exact List.Pairwise.imp_of_mem (fun ha hb h hab => h (hi _ ha _ hb hab)) hn
  have := len_sub h1 (fun y hy => by obtain ⟨x, hx, rfl⟩ := List.mem_map.1 hy; exact hf x hx)
  simpa using this

theorem subs_nodup {N : Nat} : ∀ (r : List (Int × Int)) (left : List Int) (ch : List (Int × Int)), (∀ e ∈ r, 0 ≤ e.1 ∧ e.1 < e.2 ∧ e.2 < N) → left.length = N → r.Nodup → (subs r left ch).Nodup
  | [], left, ch, _, _, _ => by rw [subs]; split <;> simp
  | e :: r, left, ch, hr, hl, hn => by
    have hn' := List.nodup_cons.1 hn
    have hr' : ∀ x ∈ r, 0 ≤ x.1 ∧ x.1 < x.2 ∧ x.2 < N := fun x hx => hr x (by simp [hx])
    rw [subs]
    refine List.nodup_append.2 ⟨?_, subs_nodup r left ch hr' hl hn'.2, ?_⟩
    · split
      · exact subs_nodup r _ _ hr' (by simp [decAt, hl]) hn'.2
      · exact .nil
    · intro g hg g2 hg2 hgg
      subst hgg
      split at hg
      · obtain ⟨s1, -, h1, -⟩ := (mem_subs r _ _ g hr' (by simp [decAt, hl])).1 hg
        obtain ⟨s2, hs2, h2, -⟩ := (mem_subs r _ _ g hr' hl).1 hg2
        rw [h1, List.append_assoc] at h2
        have h3 := List.append_cancel_left h2
        exact hn'.1 (hs2.mem (by rw [← h3]; simp))
      · cases hg

theorem reals_nodup (d : List Int) : (reals d).Nodup := subs_nodup _ _ _ (fun _ he => mem_prs.1 he) rfl (pw_nodup (prs_pw _))

/-- A graph with its vertices renamed. -/
def rel (n : Nat) (σ : Nat → Nat) (g : List (Int × Int)) : List (Int × Int) := (prs n).filter fun e => decide (mk (σ e.1.toNat) (σ e.2.toNat) ∈ g)

theorem mk_nat {n : Nat} {e : Int × Int} (he : e ∈ prs n) : mk e.1.toNat e.2.toNat = e := by
  have := mem_prs.1 he
  exact Prod.ext (by simp only [mk]; omega) (by simp only [mk]; omega)

theorem rel_deg {n : Nat} (hn : n ≤ 7) {σ : Nat → Nat} (hσ : ∀ u, u < n → σ u < n) (hi : ∀ u v, u < n → v < n → (σ u = σ v ↔ u = v)) (hp : ((List.range n).map σ).Perm (List.range n)) {g : List (Int × Int)} (hg : vGraph n g = true) {v : Nat} (hv : v < n) :
    deg (rel n σ g) v = deg g (σ v) := by
  conv => rhs; rw [vG_filter hg]
  rw [rel, deg_filter hn _ hv, deg_filter hn _ (hσ v hv)]
  conv => rhs; rw [← S_perm hp, S_map]
  refine S_congr fun u hu => ?_
  have hu := List.mem_range.1 hu
  have hm : mk (σ (mk u v).1.toNat) (σ (mk u v).2.toNat) = mk (σ u) (σ v) := by
    rcases Nat.le_total u v with h | h
    · rw [show (mk u v).1.toNat = u by simp only [mk]; omega, show (mk u v).2.toNat = v by simp only [mk]; omega]
    · rw [show (mk u v).1.toNat = v by simp only [mk]; omega, show (mk u v).2.toNat = u by simp only [mk]; omega, mk_comm]
  rw [hm]
  exact ite_iff (hi u v hu hv).symm _ _

theorem rel_rel {n : Nat} {σ τ : Nat → Nat} (hτ : ∀ u, u < n → τ u < n) (hi : ∀ u v, u < n → v < n → (τ u = τ v ↔ u = v)) (hst : ∀ u, u < n → σ (τ u) = u) {g : List (Int × Int)} (hg : vGraph n g = true) :
    rel n τ (rel n σ g) = g := by
  conv => rhs; rw [vG_filter hg]
  refine List.filter_congr fun e he => ?_
  have hb := mem_prs.1 he
  obtain ⟨a, ha⟩ := Int.eq_ofNat_of_zero_le (show 0 ≤ e.1 by omega)
  obtain ⟨b, hb2⟩ := Int.eq_ofNat_of_zero_le (show 0 ≤ e.2 by omega)
  have he2 := mk_nat he
  rw [ha, hb2, Int.toNat_natCast, Int.toNat_natCast] at he2 ⊢
  have han : a < n := by omega
  have hbn : b < n := by omega
  have hm : mk (τ a) (τ b) ∈ prs n := mk_mem (hτ a han) (hτ b hbn) (fun h => by have := (hi a b han hbn).1 h; omega)
  rw [decide_eq_decide, rel, List.mem_filter, decide_eq_true_eq]
  have hm2 : mk (σ (mk (τ a) (τ b)).1.toNat) (σ (mk (τ a) (τ b)).2.toNat) = e := by
    rcases Nat.le_total (τ a) (τ b) with h | h
    · rw [show (mk (τ a) (τ b)).1.toNat = τ a by simp only [mk]; omega, show (mk (τ a) (τ b)).2.toNat = τ b by simp only [mk]; omega, hst a han, hst b hbn, he2]
    · rw [show (mk (τ a) (τ b)).1.toNat = τ b by simp only [mk]; omega, show (mk (τ a) (τ b)).2.toNat = τ a by simp only [mk]; omega, hst a han, hst b hbn, mk_comm, he2]
  rw [hm2]
  exact ⟨fun h => h.2, fun h => ⟨hm, h⟩⟩

theorem reals_rel {d f : List Int} (h7 : d.length ≤ 7) (hl : f.length = d.length) {σ τ : Nat → Nat} (hσ : ∀ u, u < d.length → σ u < d.length) (hτ : ∀ u, u < d.length → τ u < d.length)
    (hst : ∀ u, u < d.length → σ (τ u) = u) (hts : ∀ u, u < d.length → τ (σ u) = u) (hp : ((List.range d.length).map σ).Perm (List.range d.length)) (hd : ∀ u, u < d.length → f.getD u 0 = d.getD (σ u) 0) :
    (reals d).length ≤ (reals f).length := by
  have hiσ : ∀ u v, u < d.length → v < d.length → (σ u = σ v ↔ u = v) := fun u v hu hv => ⟨fun h => by rw [← hts u hu, h, hts v hv], fun h => by rw [h]⟩
  have hiτ : ∀ u v, u < d.length → v < d.length → (τ u = τ v ↔ u = v) := fun u v hu hv => ⟨fun h => by rw [← hst u hu, h, hst v hv], fun h => by rw [h]⟩
  refine len_inj (rel d.length σ) (reals_nodup d) (fun x hx y hy h => ?_) fun g hg => ?_
  · rw [← rel_rel hτ hiτ hst ((mem_reals h7 x).1 hx).1, h, rel_rel hτ hiτ hst ((mem_reals h7 y).1 hy).1]
  · obtain ⟨h1, h2⟩ := (mem_reals h7 g).1 hg
    have hv : vGraph d.length (rel d.length σ g) = true := filter_vG h7 _
    refine (mem_reals (by omega) _).2 ?_
    rw [hl]
    refine ⟨hv, (deg_degs (vG_sub hv) hl).1 fun v hv => ?_⟩
    rw [rel_deg h7 hσ hiσ hp h1 hv, hd v hv]
    exact (deg_degs (vG_sub h1) rfl).2 h2 _ (hσ v hv)

theorem reals_fall {d : List Int} (h7 : d.length ≤ 7) : (reals (fall d)).length = (reals d).length := by
  obtain ⟨n, hn⟩ : ∃ n, n = d.length := ⟨_, rfl⟩
  have hd : d = (List.range n).map fun v => d.getD v 0 := by
    refine List.ext_getElem (by simp [hn]) fun i k1 k2 => ?_
    simp [List.getD_eq_getElem?_getD, List.getElem?_eq_getElem k1]
  obtain ⟨π, hπ, hfp⟩ := perm_map_inv (f := fun v => d.getD v 0) (fall_perm d) hd
  have hπn : π.Nodup := hπ.nodup_iff.2 List.nodup_range
  have hπl : π.length = n := by rw [hπ.length_eq, List.length_range]
  have hσ : ∀ v, v < n → π.idxOf v < n := fun v hv => by
    have hm : v ∈ π := hπ.mem_iff.2 (List.mem_range.2 hv)
    have := List.idxOf_lt_length_of_mem hm
    omega
  have hτσ : ∀ v, v < n → π.getD (π.idxOf v) 0 = v := fun v hv => by
    have hm : v ∈ π := hπ.mem_iff.2 (List.mem_range.2 hv)
    have := List.idxOf_lt_length_of_mem hm
    rw [List.getD_eq_getElem?_getD, List.getElem?_eq_getElem this, List.getElem_idxOf]; rfl
  have hτ : ∀ i, i < n → π.getD i 0 < n := fun i hi => by
    rw [List.getD_eq_getElem?_getD, List.getElem?_eq_getElem (by omega)]
    exact List.mem_range.1 (hπ.mem_iff.1 (List.getElem_mem _))
  have hστ : ∀ i, i < n → π.idxOf (π.getD i 0) = i := fun i hi => by
    rw [List.getD_eq_getElem?_getD, List.getElem?_eq_getElem (by omega)]
    exact hπn.idxOf_getElem i (by omega)
  have hp1 : ((List.range n).map (π.getD · 0)).Perm (List.range n) := by
    have : (List.range n).map (π.getD · 0) = π := by
      refine List.ext_getElem (by simp [hπl]) fun i k1 k2 => ?_
      simp [List.getD_eq_getElem?_getD, List.getElem?_eq_getElem k2]
    rw [this]; exact hπ
  have hp2 : ((List.range n).map (π.idxOf ·)).Perm (List.range n) := by
    have hmap : π.map (π.idxOf ·) = List.range n := by
      refine List.ext_getElem (by simp [hπl]) fun i k1 k2 => ?_
      rw [List.getElem_map, List.getElem_range]
      exact hπn.idxOf_getElem i (by simpa using k1)
    have := hπ.symm.map (π.idxOf ·)
    rwa [hmap] at this
  have hf : ∀ i, i < n → (fall d).getD i 0 = d.getD (π.getD i 0) 0 := fun i hi => by
    rw [hfp, List.getD_eq_getElem?_getD, List.getElem?_map, List.getD_eq_getElem?_getD (l := π), List.getElem?_eq_getElem (by omega : i < π.length)]; rfl
  have hfl := fall_len d
  have a1 := reals_rel (d := d) (f := fall d) h7 hfl (σ := (π.getD · 0)) (τ := (π.idxOf ·)) (by rw [← hn]; exact hτ) (by rw [← hn]; exact hσ) (by rw [← hn]; exact hτσ) (by rw [← hn]; exact hστ) (by rw [← hn]; exact hp1) (by rw [← hn]; exact hf)
  have a2 := reals_rel (d := fall d) (f := d) (by omega) hfl.symm (σ := (π.idxOf ·)) (τ := (π.getD · 0)) (by rw [hfl, ← hn]; exact hσ) (by rw [hfl, ← hn]; exact hτ) (by rw [hfl, ← hn]; exact hστ) (by rw [hfl, ← hn]; exact hτσ) (by rw [hfl, ← hn]; exact hp2) (fun i hi => by
    rw [hfl, ← hn] at hi
    rw [hf _ (hσ i hi), hτσ i hi])
  omega

theorem insE_end {e : Int × Int} : ∀ {es : List (Int × Int)}, (∀ x ∈ es, below x e = true) → insE e es = es ++ [e]
  | [], _ => rfl
  | x :: es, h => by rw [insE, if_pos (h x (by simp)), insE_end fun y hy => h y (by simp [hy])]; rfl

theorem sum_zero : ∀ {l : List Int}, (∀ x ∈ l, 0 ≤ x) → (l.sum = 0 ↔ l.all (fun x => decide (x = 0)) = true)
  | [], _ => by simp
  | x :: l, h => by
    have h1 := h x (by simp)
    have h2 : 0 ≤ l.sum := by
      have : ∀ {l : List Int}, (∀ x ∈ l, 0 ≤ x) → 0 ≤ l.sum := by
        intro l
        induction l with
        | nil => intro _; simp
        | cons y l ih => intro h; have := ih fun z hz => h z (by simp [hz]); have := h y (by simp); simp only [List.sum_cons]; omega
      exact this fun y hy => h y (by simp [hy])
    rw [List.sum_cons, List.all_cons, Bool.and_eq_true, ← sum_zero fun y hy => h y (by simp [hy]), decide_eq_true_eq]
    omega

theorem srS_subs {n : Nat} : ∀ (r : List (Int × Int)) (left : List Int) (es : List (Int × Int)), PW r → (∀ e ∈ r, e ∈ prs n) → left.length = n → (∀ x ∈ left, 0 ≤ x) → (∀ x ∈ es, ∀ e ∈ r, below x e = true) →
    srS n es left r = subs r left es
  | [], left, es, _, _, _, hb, _ => by rw [srS, subs]; exact ite_iff (sum_zero hb) _ _
  | e :: r, left, es, hp, hr, hl, hb, hes => by
    have hp' := List.pairwise_cons.1 hp
    have he := mem_prs.1 (hr e (by simp))
    have hr' : ∀ x ∈ r, x ∈ prs n := fun x hx => hr x (by simp [hx])
    have hes' : ∀ x ∈ es, ∀ y ∈ r, below x y = true := fun x hx y hy => hes x hx y (by simp [hy])
    have h2 := srS_subs r left es hp'.2 hr' hl hb hes'
    rw [srS, subs, insE_end fun x hx => hes x hx e (by simp)]
    congr 1
    · split
      · rename_i hq
        refine srS_subs r _ _ hp'.2 hr' (by simp [decAt, hl]) (fun x hx => ?_) fun x hx y hy => ?_
        · obtain ⟨i, hi, rfl⟩ := List.mem_iff_getElem.1 hx
          have hi2 : i < left.length := by simpa [decAt] using hi
          have g1 := decAt_get (o := decAt left e.1.toNat) (i := e.2.toNat) (v := i) (by simpa [decAt] using hi2)
          have g2 := decAt_get (o := left) (i := e.1.toNat) (v := i) hi2
          rw [List.getD_eq_getElem?_getD, List.getElem?_eq_getElem hi] at g1
          have g3 := hb left[i] (List.getElem_mem hi2)
          have g4 : left.getD i 0 = left[i] := by rw [List.getD_eq_getElem?_getD, List.getElem?_eq_getElem hi2]; rfl
          simp only [Option.getD_some] at g1
          rw [g1, g2, g4]
          by_cases k1 : e.1.toNat = i
          · rw [k1] at hq
            have : ¬ e.2.toNat = i := by omega
            rw [if_pos k1, if_neg this]; omega
          · by_cases k2 : e.2.toNat = i
            · rw [k2] at hq
              rw [if_neg k1, if_pos k2]; omega
            · rw [if_neg k1, if_neg k2]; omega
        · rcases List.mem_append.1 hx with hx | hx
          · exact hes' x hx y hy
          · simp at hx; subst hx; exact hp'.1 y hy
      · rfl
    · by_cases hq : e.2 + 1 < n ∨ left.getD e.1.toNat 0 = 0
      · rw [if_pos hq, h2]
      · rw [if_neg hq]
        cases hs : subs r left es with
        | nil => rfl
        | cons g gl =>
          exfalso
          have hg : g ∈ subs r left es := by rw [hs]; simp
          obtain ⟨s, hsr, -, hd⟩ := (mem_subs r left es g (fun x hx => mem_prs.1 (hr' x hx)) hl).1 hg
          have h3 := hd e.1.toNat (by omega)
          have h4 : deg s e.1.toNat = 0 := by
            rw [deg, S_congr (g := fun _ => 0), S_zero]
            intro x hx
            have hx1 := hp'.1 x (hsr.mem hx)
            have hx2 := mem_prs.1 (hr' x (hsr.mem hx))
            rw [below_iff] at hx1
            rw [inc, if_neg (by omega), if_neg (by omega)]; rfl
          omega

theorem srS_reals {d : List Int} (hv : valid d = true) : srS d.length [] d (prs d.length) = reals d :=
  srS_subs _ _ _ (prs_pw _) (fun _ h => h) rfl (fun x hx => (valid_mem hv x hx).1) (by simp)

end Go.Idl

namespace Go.Idl

/-- Graphic, of falling lists. -/
def gS (s : List Int) : Bool := s.all (fun x => decide (0 ≤ x) && decide (x < s.length)) && decide (s.sum % 2 = 0) && noneNeg (slS s)

theorem all_perm' {xs ys : List Int} (h : xs.Perm ys) (p : Int → Bool) : xs.all p = ys.all p := by
  rw [Bool.eq_iff_iff, List.all_eq_true, List.all_eq_true]
  exact ⟨fun k x hx => k x (h.mem_iff.2 hx), fun k x hx => k x (h.mem_iff.1 hx)⟩

theorem graphic_gS {d : List Int} (hl : d.length ≤ 7) : graphic d = gS (fall d) := by
  rw [graphic, gS, valid, slacks_S, fall_len, fall_sum, all_perm' (fall_perm d), decide_eq_true hl, Bool.true_and]
  rfl

end Go.Idl

namespace Go.Idl

/-- Numbers below eight as one number. -/
def encI : List Int → Nat
  | [] => 0
  | x :: r => x.toNat + 8 * encI r

theorem dig_enc : ∀ (l : List Int) (i : Nat), (∀ x ∈ l, 0 ≤ x ∧ x < 8) → encI l / 8 ^ i % 8 = (l.getD i 0).toNat
  | [], i, _ => by simp [encI]
  | x :: r, 0, h => by
    have := h x (by simp)
    simp only [encI, Nat.pow_zero, Nat.div_one, List.getD_cons_zero]; omega
  | x :: r, i + 1, h => by
    have h1 := h x (by simp)
    have h2 := dig_enc r i fun y hy => h y (by simp [hy])
    rw [encI, Nat.pow_succ, Nat.mul_comm (8 ^ i), ← Nat.div_div_eq_div_mul, show (x.toNat + 8 * encI r) / 8 = encI r by omega, h2, List.getD_cons_succ]

theorem enc_dec : ∀ (l : List Int) (i : Nat), (∀ x ∈ l, 0 ≤ x ∧ x < 8) → 0 < l.getD i 0 → encI (decAt l i) + 8 ^ i = encI l
  | [], i, _, h => by simp at h
  | x :: r, 0, h, hp => by
    simp only [List.getD_cons_zero] at hp
    simp only [decAt, List.getD_cons_zero, List.set_cons_zero, encI, Nat.pow_zero]; omega
  | x :: r, i + 1, h, hp => by
    rw [List.getD_cons_succ] at hp
    have h2 := enc_dec r i (fun y hy => h y (by simp [hy])) hp
    rw [decAt] at h2
    rw [decAt, List.getD_cons_succ, List.set_cons_succ, encI, encI, Nat.pow_succ]; omega

theorem enc_zero : ∀ l : List Int, (∀ x ∈ l, 0 ≤ x ∧ x < 8) → (encI l = 0 ↔ l.sum = 0)
  | [], _ => by simp [encI]
  | x :: r, h => by
    have h1 := h x (by simp)
    have h2 := enc_zero r fun y hy => h y (by simp [hy])
    have h3 : 0 ≤ r.sum := by
      have : ∀ {l : List Int}, (∀ x ∈ l, 0 ≤ x ∧ x < 8) → 0 ≤ l.sum := by
        intro l
        induction l with
        | nil => intro _; simp
        | cons y l ih => intro h; have := ih fun z hz => h z (by simp [hz]); have := h y (by simp); simp only [List.sum_cons]; omega
      exact this fun y hy => h y (by simp [hy])
    rw [encI, List.sum_cons]; omega

/-- How many graphs there are, on one number. -/
noncomputable def sN (n : Nat) (P : List (Nat × Nat)) : Nat → Nat :=
  List.rec (motive := fun _ => Nat → Nat) (fun q => Bool.rec 0 1 (Nat.beq q 0))
    (fun e _ ih q => Nat.add
      (Bool.rec 0 (Bool.rec 0 (ih (Nat.sub (Nat.sub q (Nat.pow 8 e.1)) (Nat.pow 8 e.2))) (Nat.ble 1 (Nat.mod (Nat.div q (Nat.pow 8 e.2)) 8))) (Nat.ble 1 (Nat.mod (Nat.div q (Nat.pow 8 e.1)) 8)))
      (Bool.rec (Bool.rec 0 (ih q) (Nat.beq (Nat.mod (Nat.div q (Nat.pow 8 e.1)) 8) 0)) (ih q) (Nat.ble (e.2 + 2) n))) P

theorem rec_ite (b : Bool) (x y : Nat) : (Bool.rec x y b : Nat) = if b = true then y else x := by cases b <;> rfl

theorem sN_cons (n : Nat) (a b : Nat) (P : List (Nat × Nat)) (q : Nat) : sN n ((a, b) :: P) q =
    (if 1 ≤ q / 8 ^ a % 8 then (if 1 ≤ q / 8 ^ b % 8 then sN n P (q - 8 ^ a - 8 ^ b) else 0) else 0) + (if b + 2 ≤ n then sN n P q else if q / 8 ^ a % 8 = 0 then sN n P q else 0) := by
  show Nat.add (Bool.rec 0 (Bool.rec 0 (sN n P (Nat.sub (Nat.sub q (Nat.pow 8 a)) (Nat.pow 8 b))) (Nat.ble 1 (Nat.mod (Nat.div q (Nat.pow 8 b)) 8))) (Nat.ble 1 (Nat.mod (Nat.div q (Nat.pow 8 a)) 8)))
      (Bool.rec (Bool.rec 0 (sN n P q) (Nat.beq (Nat.mod (Nat.div q (Nat.pow 8 a)) 8) 0)) (sN n P q) (Nat.ble (b + 2) n)) = _
  simp only [rec_ite, Nat.ble_eq, Nat.beq_eq]
  rfl

theorem dec_bound {l : List Int} {i : Nat} (h : ∀ x ∈ l, 0 ≤ x ∧ x < 8) (hp : 0 < l.getD i 0) : ∀ x ∈ decAt l i, 0 ≤ x ∧ x < 8 := by
  intro x hx
  rcases List.mem_or_eq_of_mem_set hx with hx | rfl
  · exact h x hx
  · have : l.getD i 0 < 8 := by
      rw [List.getD_eq_getElem?_getD] at hp ⊢
      cases hq : l[i]? with
      | none => rw [hq] at hp; simp at hp
      | some y => have := h y (List.mem_of_getElem? hq); simpa using this.2
    omega

theorem dec_other {l : List Int} {i j : Nat} (h : i ≠ j) : (decAt l i).getD j 0 = l.getD j 0 := by
  rw [decAt, List.getD_eq_getElem?_getD, List.getElem?_set_ne h, List.getD_eq_getElem?_getD]

theorem srS_sN (n : Nat) : ∀ (r : List (Int × Int)) (es : List (Int × Int)) (left : List Int), (∀ e ∈ r, 0 ≤ e.1 ∧ e.1 < e.2) → (∀ x ∈ left, 0 ≤ x ∧ x < 8) →
    (srS n es left r).length = sN n (r.map fun e => (e.1.toNat, e.2.toNat)) (encI left)
  | [], es, left, _, hb => by
    rw [srS]
    show _ = (Bool.rec 0 1 (Nat.beq (encI left) 0) : Nat)
    rw [rec_ite]
    simp only [Nat.beq_eq]
    by_cases h0 : left.sum = 0
    · rw [if_pos h0, if_pos ((enc_zero left hb).2 h0)]; rfl
    · rw [if_neg h0, if_neg fun h => h0 ((enc_zero left hb).1 h)]; rfl
  | e :: r, es, left, hr, hb => by
    have he := hr e (by simp)
    have hr' : ∀ x ∈ r, 0 ≤ x.1 ∧ x.1 < x.2 := fun x hx => hr x (by simp [hx])
    have d1 := dig_enc left e.1.toNat hb
    have d2 := dig_enc left e.2.toNat hb
    have hne : e.1.toNat ≠ e.2.toNat := by omega
    rw [srS, List.map_cons, sN_cons, d1, d2, List.length_append]
    have i2 := srS_sN n r es left hr' hb
    congr 1
    · by_cases h1 : 0 < left.getD e.1.toNat 0
      · rw [if_pos (show 1 ≤ (left.getD e.1.toNat 0).toNat by omega)]
        by_cases h2 : 0 < left.getD e.2.toNat 0
        · rw [if_pos ⟨h1, h2⟩, if_pos (show 1 ≤ (left.getD e.2.toNat 0).toNat by omega)]
          have k1 := enc_dec left e.1.toNat hb h1
          have b1 := dec_bound hb h1
          have h2' : 0 < (decAt left e.1.toNat).getD e.2.toNat 0 := by rw [dec_other hne]; exact h2
          have k2 := enc_dec _ e.2.toNat b1 h2'
          rw [srS_sN n r _ _ hr' (dec_bound b1 h2')]
          congr 1
          omega
        · rw [if_neg (fun h => h2 h.2), if_neg (show ¬ 1 ≤ (left.getD e.2.toNat 0).toNat by omega)]; rfl
      · rw [if_neg (fun h => h1 h.1), if_neg (show ¬ 1 ≤ (left.getD e.1.toNat 0).toNat by omega)]; rfl
    · have hz : (left.getD e.1.toNat 0).toNat = 0 ↔ left.getD e.1.toNat 0 = 0 := by
        have : 0 ≤ left.getD e.1.toNat 0 := by
          rw [List.getD_eq_getElem?_getD]
          cases hq : left[e.1.toNat]? with
          | none => simp
          | some y => exact (hb y (List.mem_of_getElem? hq)).1
        omega
      by_cases h3 : e.2 + 1 < n
      · rw [if_pos (.inl h3), if_pos (by omega), i2]
      · rw [if_neg (show ¬ e.2.toNat + 2 ≤ n by omega)]
        by_cases h4 : left.getD e.1.toNat 0 = 0
        · rw [if_pos (.inr h4), if_pos (hz.2 h4), i2]
        · rw [if_neg (fun h => h.elim h3 h4), if_neg fun h => h4 (hz.1 h)]; rfl

/-- Threshold, of falling lists. -/
def thS (s : List Int) : Bool := decide (s = corrs s)

/-- How far the slack at the Durfee number is from zero, of falling lists. -/
def spS (s : List Int) : Int := if gS s then (if s.length = 0 then 0 else ((slS s).getD (durf s - 1) 0).tdiv 2) else -1

def chkT (s : List Int) : Bool := decide (thS (compS s) = thS s) && (!thS s || decide (spS s = 0))

noncomputable def chkU (s : List Int) : Bool := Bool.rec (!(Nat.beq (sN s.length ((prs s.length).map fun e => (e.1.toNat, e.2.toNat)) (encI s)) 1)) (Nat.beq (sN s.length ((prs s.length).map fun e => (e.1.toNat, e.2.toNat)) (encI s)) 1) (thS s)

set_option maxRecDepth 100000 in
theorem chkT_all : (List.range 8).all (fun n => allD chkT n (n - 1) []) = true := by kernel_rfl

set_option maxRecDepth 100000 in
theorem chkU_all : (List.range 7).all (fun n => allD chkU n (n - 1) []) = true := by kernel_rfl

theorem thrLaw : ∀ d, valid d = true → ThrLaw d := fun d hv => by
  have h1 := (valid_few hv).1
  have h2 := valid_mem hv
  have hb : ∀ x ∈ fall d, 0 ≤ x ∧ x ≤ ((d.length - 1 : Nat) : Int) := fun x hx => by
    have := h2 x (fall_mem.1 hx)
    omega
  have hc := List.all_eq_true.1 chkT_all d.length (List.mem_range.2 (by omega))
  have h3 := allD_ok chkT d.length (d.length - 1) [] (fall d) hc (fall_len d) (fall_desc d) hb
  simp only [List.reverse_nil, List.nil_append, chkT, Bool.and_eq_true, decide_eq_true_eq, Bool.or_eq_true, Bool.not_eq_true'] at h3
  have ht : thr d = thS (fall d) := by rw [thr, hv, thS, Bool.true_and]
  have hs : splitt d = spS (fall d) := by rw [splitt, spS, graphic_gS h1, slacks_S, fall_len]
  refine ⟨?_, fun h6 => ?_, fun h => ?_⟩
  · rw [thr, comp_valid hv, Bool.true_and, fall_comp, ht]; exact of_decide_eq_true h3.1
  · have hc := List.all_eq_true.1 chkU_all d.length (List.mem_range.2 (by omega))
    have h4 := allD_ok chkU d.length (d.length - 1) [] (fall d) hc (fall_len d) (fall_desc d) hb
    have h5 := srS_sN (fall d).length (prs (fall d).length) [] (fall d) (fun e he => by have := mem_prs.1 he; omega) (fun x hx => by have := hb x hx; omega)
    rw [srS_reals (fall_valid hv), reals_fall h1] at h5
    simp only [List.reverse_nil, List.nil_append, chkU] at h4
    rw [← h5] at h4
    rw [ht]
    cases hq : thS (fall d) with
    | false =>
      rw [hq] at h4
      have h4 : (!(Nat.beq (reals d).length 1)) = true := h4
      refine decide_eq_false fun h => ?_
      rw [h] at h4
      cases h4
    | true =>
      rw [hq] at h4
      have h4 : Nat.beq (reals d).length 1 = true := h4
      exact decide_eq_true (Nat.eq_of_beq_eq_true h4)
  · rw [hs]
    rw [ht] at h
    rcases h3.2 with h3 | h3
    · rw [h] at h3; cases h3
    · exact of_decide_eq_true h3

end Go.Idl

