/- Part 6 of a proof by an ideal interpreter of the code: its definitions and lemmas. Conditions: none. -/
import Derived.KernelRfl
import Derived.Test.YtelicgkafbdboaaA5
set_option linter.all false
set_option linter.unusedVariables false
set_option linter.unusedSimpArgs false
namespace Go.Idl

open Go

def compM (n : Nat) (es : List (Int × Int)) : List (Int × Int) := (prs n).filter fun e => !hasM es e.1 e.2

theorem ev_complement_F1 (n : Int) (es : List (Int × Int)) (c : Bool) (hl : es.length ≤ 100000000) (a b : Int) (bs : Boxes) (Ms : List Boxes) :
    Ev tb l_impl_Graph_complement_F1 [] [I a, I b, .bptr 0 0 0] (([I n, L2 es c] :: bs) :: Ms) ⟨Bo (!hasM es a b), [], ([I n, L2 es c] :: bs) :: Ms, []⟩ := by
  have e1 := ev_lim (ev_has n 2 es c a b (.inl rfl) hl [])
  refine call_of_wp tb_impl_Graph_complement_F1 rfl ?_
  repeat (first | refine wp_as ?_ | refine wp_ss ?_ | refine wp_rs (by simp [e1]; with_reducible rfl) (by simp; with_reducible rfl) ?_ | refine wp_reg (by simp [e1]; with_reducible rfl) (by simp; with_reducible rfl) ?_ | (refine wp_ct (t := true) ?_ (fun _ => ?_) (fun hh => nomatch hh); focus (simp [e1]; done)) | (refine wp_ct (t := false) ?_ (fun hh => nomatch hh) (fun _ => ?_); focus (simp [e1]; done)) | (refine wp_c (t := true) ?_ (fun _ => ?_) (fun hh => nomatch hh); focus (simp [e1]; done)) | (refine wp_c (t := false) ?_ (fun hh => nomatch hh) (fun _ => ?_); focus (simp [e1]; done)) | refine wp_bs ?_ | refine wp_b ?_ | refine wp_sr ?_ | refine wp_sx ?_ | refine wp_ret' ?_ | refine wp_skip' ?_ | refine wp_exit' ?_)
  simp [if_impl_Graph_complement_F1]

theorem ev_Graph_complement (n : Nat) (hn : n ≤ 100) (es : List (Int × Int)) (c : Bool) (hl : es.length ≤ 100000000) :
    Ev tb l_impl_Graph_complement [] [Gr n es c] [] ⟨.agg [I n, nl2 (compM n es)], [], [], []⟩ := by
  have e1 := ev_lim (ev_which n hn l_impl_Graph_complement_F1 [.bptr 0 0 0] [[[I n, L2 es c], [I 0, Z]]] (fun a b => !hasM es a b) (fun e _ bs => ev_complement_F1 n es c hl e.1 e.2 [[I 0, Z]] [bs]))
  have hc : ((prs n).filter fun e => !hasM es e.1 e.2) = compM n es := rfl
  rw [hc] at e1
  generalize compM n es = Q at *
  cases Q with
  | nil =>
    rw [nl2_nil] at *
    refine call_of_wp tb_impl_Graph_complement rfl ?_
    repeat (first | refine wp_as ?_ | refine wp_ss ?_ | refine wp_rs (by simp [e1]; with_reducible rfl) (by simp; with_reducible rfl) ?_ | refine wp_reg (by simp [e1]; with_reducible rfl) (by simp; with_reducible rfl) ?_ | (refine wp_ct (t := true) ?_ (fun _ => ?_) (fun hh => nomatch hh); focus (simp [e1]; done)) | (refine wp_ct (t := false) ?_ (fun hh => nomatch hh) (fun _ => ?_); focus (simp [e1]; done)) | (refine wp_c (t := true) ?_ (fun _ => ?_) (fun hh => nomatch hh); focus (simp [e1]; done)) | (refine wp_c (t := false) ?_ (fun hh => nomatch hh) (fun _ => ?_); focus (simp [e1]; done)) | refine wp_bs ?_ | refine wp_b ?_ | refine wp_sr ?_ | refine wp_sx ?_ | refine wp_ret' ?_ | refine wp_skip' ?_ | refine wp_exit' ?_)
    simp [if_impl_Graph_complement]
  | cons q Q =>
    rw [nl2_cons] at *
    refine call_of_wp tb_impl_Graph_complement rfl ?_
    repeat (first | refine wp_as ?_ | refine wp_ss ?_ | refine wp_rs (by simp [e1]; with_reducible rfl) (by simp; with_reducible rfl) ?_ | refine wp_reg (by simp [e1]; with_reducible rfl) (by simp; with_reducible rfl) ?_ | (refine wp_ct (t := true) ?_ (fun _ => ?_) (fun hh => nomatch hh); focus (simp [e1]; done)) | (refine wp_ct (t := false) ?_ (fun hh => nomatch hh) (fun _ => ?_); focus (simp [e1]; done)) | (refine wp_c (t := true) ?_ (fun _ => ?_) (fun hh => nomatch hh); focus (simp [e1]; done)) | (refine wp_c (t := false) ?_ (fun hh => nomatch hh) (fun _ => ?_); focus (simp [e1]; done)) | refine wp_bs ?_ | refine wp_b ?_ | refine wp_sr ?_ | refine wp_sx ?_ | refine wp_ret' ?_ | refine wp_skip' ?_ | refine wp_exit' ?_)
    simp [if_impl_Graph_complement]

theorem ev_ComplementGraph (n : Nat) (es : List (Int × Int)) (c : Bool) (hf : Fit es) (hl : es.length ≤ 100000000) (hv : vGraph n es = true) :
    Ev tb l_impl_ComplementGraph [] [Gr n es c] [] ⟨.agg [I n, nl2 (compM n es)], [], [], []⟩ := by
  have hn : n ≤ 7 := by simp only [vGraph, Bool.and_eq_true, decide_eq_true_eq] at hv; omega
  have e1 := ev_lim (ev_ValidGraph n es c hf hl)
  have e2 := ev_lim (ev_Graph_complement n (by omega) es c hl)
  generalize compM n es = Q at *
  cases Q with
  | nil =>
    rw [nl2_nil] at *
    refine call_of_wp tb_impl_ComplementGraph rfl ?_
    repeat (first | refine wp_as ?_ | refine wp_ss ?_ | refine wp_rs (by simp [e1, e2, hv]; with_reducible rfl) (by simp; with_reducible rfl) ?_ | refine wp_reg (by simp [e1, e2, hv]; with_reducible rfl) (by simp; with_reducible rfl) ?_ | (refine wp_ct (t := true) ?_ (fun _ => ?_) (fun hh => nomatch hh); focus (simp [e1, e2, hv]; done)) | (refine wp_ct (t := false) ?_ (fun hh => nomatch hh) (fun _ => ?_); focus (simp [e1, e2, hv]; done)) | (refine wp_c (t := true) ?_ (fun _ => ?_) (fun hh => nomatch hh); focus (simp [e1, e2, hv]; done)) | (refine wp_c (t := false) ?_ (fun hh => nomatch hh) (fun _ => ?_); focus (simp [e1, e2, hv]; done)) | refine wp_bs ?_ | refine wp_b ?_ | refine wp_sr ?_ | refine wp_sx ?_ | refine wp_ret' ?_ | refine wp_skip' ?_ | refine wp_exit' ?_)
    simp [if_impl_ComplementGraph]
  | cons q Q =>
    rw [nl2_cons] at *
    refine call_of_wp tb_impl_ComplementGraph rfl ?_
    repeat (first | refine wp_as ?_ | refine wp_ss ?_ | refine wp_rs (by simp [e1, e2, hv]; with_reducible rfl) (by simp; with_reducible rfl) ?_ | refine wp_reg (by simp [e1, e2, hv]; with_reducible rfl) (by simp; with_reducible rfl) ?_ | (refine wp_ct (t := true) ?_ (fun _ => ?_) (fun hh => nomatch hh); focus (simp [e1, e2, hv]; done)) | (refine wp_ct (t := false) ?_ (fun hh => nomatch hh) (fun _ => ?_); focus (simp [e1, e2, hv]; done)) | (refine wp_c (t := true) ?_ (fun _ => ?_) (fun hh => nomatch hh); focus (simp [e1, e2, hv]; done)) | (refine wp_c (t := false) ?_ (fun hh => nomatch hh) (fun _ => ?_); focus (simp [e1, e2, hv]; done)) | refine wp_bs ?_ | refine wp_b ?_ | refine wp_sr ?_ | refine wp_sx ?_ | refine wp_ret' ?_ | refine wp_skip' ?_ | refine wp_exit' ?_)
    simp [if_impl_ComplementGraph]

theorem ev_Graph_degrees (n : Nat) (es : List (Int × Int)) (c : Bool) (hn : n ≤ 1000) (hl : es.length ≤ 1000) (he : EdgesIn n es) :
    Ev tb l_impl_Graph_degrees [] [Gr n es c] [] ⟨O (degs n es), [], [], []⟩ := by
  have loop : ∀ (m i : Nat) (out : List Int) (bs : Boxes), i + m = es.length → out.length = n → (∀ x ∈ out, 0 ≤ x ∧ x ≤ 2 * i) →
      wp tb (.loop ic_impl_Graph_degrees_l8) { T := [(1, .bptr 0 0 0), (3, O out), (10, L2 es c), (11, I es.length), (12, I i)], loc := [I n, L2 es c] :: bs, M := [] }
      (fun ex st => ex = .exit 0 ∧ ∃ bs', st = { T := [(1, .bptr 0 0 0), (3, O (dfold out (es.drop i))), (10, L2 es c), (11, I es.length), (12, I es.length), (13, Bo false)], loc := [I n, L2 es c] :: bs', M := [] }) := by
    intro m
    induction m with
    | zero =>
      intro i out bs hi ho hb
      have h3 : i = es.length := hi
      subst h3
      refine wp_loop ?_
      repeat (first | refine wp_as ?_ | refine wp_ss ?_ | refine wp_rs (by simp; with_reducible rfl) (by simp; with_reducible rfl) ?_ | refine wp_reg (by simp; with_reducible rfl) (by simp; with_reducible rfl) ?_ | (refine wp_ct (t := true) ?_ (fun _ => ?_) (fun hh => nomatch hh); focus (simp; done)) | (refine wp_ct (t := false) ?_ (fun hh => nomatch hh) (fun _ => ?_); focus (simp; done)) | (refine wp_c (t := true) ?_ (fun _ => ?_) (fun hh => nomatch hh); focus (simp; done)) | (refine wp_c (t := false) ?_ (fun hh => nomatch hh) (fun _ => ?_); focus (simp; done)) | refine wp_bs ?_ | refine wp_b ?_ | refine wp_sr ?_ | refine wp_sx ?_ | refine wp_ret' ?_ | refine wp_skip' ?_ | refine wp_exit' ?_)
      exact ⟨rfl, bs, by simp [dfold]⟩
    | succ m ih =>
      intro i out bs hi ho hb
      have hi2 : i < es.length := by omega
      have w1 : IntKind.i64.wrap ((i : Int) + 1) = ((i + 1 : Nat) : Int) := wrapS (by omega)
      have hd : es.drop i = es[i] :: es.drop (i + 1) := List.drop_eq_getElem_cons hi2
      have hei := he es[i] (List.getElem_mem hi2)
      obtain ⟨p, q, hpq, hp, hq⟩ : ∃ p q : Nat, es[i] = ((p : Int), (q : Int)) ∧ p < n ∧ q < n := ⟨es[i].1.toNat, es[i].2.toNat, by ext <;> simp <;> omega, by omega, by omega⟩
      rw [hd, hpq]
      have hpo : p < out.length := by omega
      have hx := hb out[p] (List.getElem_mem hpo)
      have w2 : IntKind.i64.wrap (out[p] + 1) = out[p] + 1 := wrap64 (by omega) (by omega)
      have e1 := bump_eq hpo
      have b1 := bump_bound (i := p) hb (by omega)
      have l1 := bump_len out p
      have hstep : dfold out (((p : Int), (q : Int)) :: es.drop (i + 1)) = dfold (bump (bump out p) q) (es.drop (i + 1)) := rfl
      rw [hstep]
      refine wp_loop ?_
      repeat (first | refine wp_as ?_ | refine wp_ss ?_ | refine wp_rs (by simp [hi2, hpq]; with_reducible rfl) (by simp; with_reducible rfl) ?_ | refine wp_reg (by simp [hi2, hpq]; with_reducible rfl) (by simp; with_reducible rfl) ?_ | (refine wp_ct (t := true) ?_ (fun _ => ?_) (fun hh => nomatch hh); focus (simp [hi2, hpq]; done)) | (refine wp_ct (t := false) ?_ (fun hh => nomatch hh) (fun _ => ?_); focus (simp [hi2, hpq]; done)) | (refine wp_c (t := true) ?_ (fun _ => ?_) (fun hh => nomatch hh); focus (simp [hi2, hpq]; done)) | (refine wp_c (t := false) ?_ (fun hh => nomatch hh) (fun _ => ?_); focus (simp [hi2, hpq]; done)) | refine wp_bs ?_ | refine wp_b ?_ | refine wp_sr ?_ | refine wp_sx ?_ | refine wp_ret' ?_ | refine wp_skip' ?_ | refine wp_exit' ?_)
      refine wp_rs (by simp [hi2, hpq, hpo, w2, ← e1]; with_reducible rfl) (by simp; with_reducible rfl) ?_
      generalize bump out p = out1 at *
      have hqo : q < out1.length := by omega
      have hx2 := b1 out1[q] (List.getElem_mem hqo)
      have w3 : IntKind.i64.wrap (out1[q] + 1) = out1[q] + 1 := wrap64 (by omega) (by omega)
      have e2 := bump_eq hqo
      have b2 := bump_bound (i := q) b1 (by omega)
      have l2 := bump_len out1 q
      refine wp_reg (by simp [hi2, hpq, hqo, w3, ← e2]; with_reducible rfl) (by simp; with_reducible rfl) ?_
      repeat (first | refine wp_as ?_ | refine wp_ss ?_ | refine wp_rs (by simp [w1]; with_reducible rfl) (by simp; with_reducible rfl) ?_ | refine wp_reg (by simp [w1]; with_reducible rfl) (by simp; with_reducible rfl) ?_ | (refine wp_ct (t := true) ?_ (fun _ => ?_) (fun hh => nomatch hh); focus (simp [w1]; done)) | (refine wp_ct (t := false) ?_ (fun hh => nomatch hh) (fun _ => ?_); focus (simp [w1]; done)) | (refine wp_c (t := true) ?_ (fun _ => ?_) (fun hh => nomatch hh); focus (simp [w1]; done)) | (refine wp_c (t := false) ?_ (fun hh => nomatch hh) (fun _ => ?_); focus (simp [w1]; done)) | refine wp_bs ?_ | refine wp_b ?_ | refine wp_sr ?_ | refine wp_sx ?_ | refine wp_ret' ?_ | refine wp_skip' ?_ | refine wp_exit' ?_)
      exact ih (i + 1) (bump out1 q) _ (by omega) (by omega) (fun x hx => by have := b2 x hx; omega)
  refine call_of_wp tb_impl_Graph_degrees rfl ?_
  repeat (first | refine wp_as ?_ | refine wp_ss ?_ | refine wp_rs (by simp [show n ≤ 274877906944 by omega]; with_reducible rfl) (by simp; with_reducible rfl) ?_ | refine wp_reg (by simp [show n ≤ 274877906944 by omega]; with_reducible rfl) (by simp; with_reducible rfl) ?_ | (refine wp_ct (t := true) ?_ (fun _ => ?_) (fun hh => nomatch hh); focus (simp [show n ≤ 274877906944 by omega]; done)) | (refine wp_ct (t := false) ?_ (fun hh => nomatch hh) (fun _ => ?_); focus (simp [show n ≤ 274877906944 by omega]; done)) | (refine wp_c (t := true) ?_ (fun _ => ?_) (fun hh => nomatch hh); focus (simp [show n ≤ 274877906944 by omega]; done)) | (refine wp_c (t := false) ?_ (fun hh => nomatch hh) (fun _ => ?_); focus (simp [show n ≤ 274877906944 by omega]; done)) | refine wp_bs ?_ | refine wp_b ?_ | refine wp_sr ?_ | refine wp_sx ?_ | refine wp_ret' ?_ | refine wp_skip' ?_ | refine wp_exit' ?_)
  have := loop es.length 0 (List.replicate n 0) [] (by simp) (by simp) (by intro x hx; have := List.eq_of_mem_replicate hx; subst this; simp)
  simp at this
  refine wp_imp this ?_
  rintro ex st ⟨rfl, bs, rfl⟩
  try simp only [if_true]
  repeat (first | refine wp_as ?_ | refine wp_ss ?_ | refine wp_rs (by simp; with_reducible rfl) (by simp; with_reducible rfl) ?_ | refine wp_reg (by simp; with_reducible rfl) (by simp; with_reducible rfl) ?_ | (refine wp_ct (t := true) ?_ (fun _ => ?_) (fun hh => nomatch hh); focus (simp; done)) | (refine wp_ct (t := false) ?_ (fun hh => nomatch hh) (fun _ => ?_); focus (simp; done)) | (refine wp_c (t := true) ?_ (fun _ => ?_) (fun hh => nomatch hh); focus (simp; done)) | (refine wp_c (t := false) ?_ (fun hh => nomatch hh) (fun _ => ?_); focus (simp; done)) | refine wp_bs ?_ | refine wp_b ?_ | refine wp_sr ?_ | refine wp_sx ?_ | refine wp_ret' ?_ | refine wp_skip' ?_ | refine wp_exit' ?_)
  simp [if_impl_Graph_degrees, degs]

theorem vEs_in (n : Int) : ∀ (p : Option (Int × Int)) (es : List (Int × Int)), vEs n p es = true → ∀ e ∈ es, okE n e = true
  | _, [], _ => by simp
  | none, e :: r, h => by
    simp only [vEs, Bool.and_eq_true] at h
    intro x hx
    rcases List.mem_cons.1 hx with rfl | hx
    · exact h.1
    · exact vEs_in n _ r h.2 x hx
  | some q, e :: r, h => by
    simp only [vEs, Bool.and_eq_true] at h
    intro x hx
    rcases List.mem_cons.1 hx with rfl | hx
    · exact h.1
    · exact vEs_in n _ r h.2.2 x hx

theorem vG_edges {n : Int} {es : List (Int × Int)} (h : vGraph n es = true) : ∀ e ∈ es, 0 ≤ e.1 ∧ e.1 < e.2 ∧ e.2 < n := by
  simp only [vGraph, Bool.and_eq_true] at h
  intro e he
  have := vEs_in n none es h.1 e he
  simpa [okE] using this

theorem vG_in {n : Nat} {es : List (Int × Int)} (h : vGraph n es = true) : EdgesIn n es := fun e he => by
  have := vG_edges h e he; omega

theorem vG_n {n : Int} {es : List (Int × Int)} (h : vGraph n es = true) : 0 ≤ n ∧ n ≤ 7 := by
  simp only [vGraph, Bool.and_eq_true, decide_eq_true_eq] at h; omega

theorem ev_impl_DegreesOf (n : Nat) (es : List (Int × Int)) (c : Bool) (hf : Fit es) (hl : es.length ≤ 1000) (hv : vGraph n es = true) : Ev tb l_impl_DegreesOf [] [Gr n es c] [] ⟨O (degs n es), [], [], []⟩ := by
  have hn := (vG_n hv).2
  have e1 := ev_lim (ev_ValidGraph n es c hf (by omega))
  have e2 := ev_lim (ev_Graph_degrees n es c (by omega) hl (vG_in hv))
  refine call_of_wp tb_impl_DegreesOf rfl ?_
  repeat (first | refine wp_as ?_ | refine wp_ss ?_ | refine wp_rs (by simp [e1, e2, hv]; with_reducible rfl) (by simp; with_reducible rfl) ?_ | refine wp_reg (by simp [e1, e2, hv]; with_reducible rfl) (by simp; with_reducible rfl) ?_ | (refine wp_ct (t := true) ?_ (fun _ => ?_) (fun hh => nomatch hh); focus (simp [e1, e2, hv]; done)) | (refine wp_ct (t := false) ?_ (fun hh => nomatch hh) (fun _ => ?_); focus (simp [e1, e2, hv]; done)) | (refine wp_c (t := true) ?_ (fun _ => ?_) (fun hh => nomatch hh); focus (simp [e1, e2, hv]; done)) | (refine wp_c (t := false) ?_ (fun hh => nomatch hh) (fun _ => ?_); focus (simp [e1, e2, hv]; done)) | refine wp_bs ?_ | refine wp_b ?_ | refine wp_sr ?_ | refine wp_sx ?_ | refine wp_ret' ?_ | refine wp_skip' ?_ | refine wp_exit' ?_)
  simp [if_impl_DegreesOf]

theorem ev_impl_DegreesOf_no (n : Int) (es : List (Int × Int)) (c : Bool) (hf : Fit es) (hl : es.length ≤ 1000) (hv : vGraph n es = false) : Ev tb l_impl_DegreesOf [] [Gr n es c] [] ⟨Z, [], [], []⟩ := by
  have e1 := ev_lim (ev_ValidGraph n es c hf (by omega))
  refine call_of_wp tb_impl_DegreesOf rfl ?_
  repeat (first | refine wp_as ?_ | refine wp_ss ?_ | refine wp_rs (by simp [e1, hv]; with_reducible rfl) (by simp; with_reducible rfl) ?_ | refine wp_reg (by simp [e1, hv]; with_reducible rfl) (by simp; with_reducible rfl) ?_ | (refine wp_ct (t := true) ?_ (fun _ => ?_) (fun hh => nomatch hh); focus (simp [e1, hv]; done)) | (refine wp_ct (t := false) ?_ (fun hh => nomatch hh) (fun _ => ?_); focus (simp [e1, hv]; done)) | (refine wp_c (t := true) ?_ (fun _ => ?_) (fun hh => nomatch hh); focus (simp [e1, hv]; done)) | (refine wp_c (t := false) ?_ (fun hh => nomatch hh) (fun _ => ?_); focus (simp [e1, hv]; done)) | refine wp_bs ?_ | refine wp_b ?_ | refine wp_sr ?_ | refine wp_sx ?_ | refine wp_ret' ?_ | refine wp_skip' ?_ | refine wp_exit' ?_)
  simp [if_impl_DegreesOf]

theorem ev_spec_DegreesOf (n : Nat) (es : List (Int × Int)) (c : Bool) (hf : Fit es) (hl : es.length ≤ 1000) (hv : vGraph n es = true) : Ev tb l_spec_DegreesOf [] [Gr n es c] [] ⟨O (degs n es), [], [], []⟩ := by
  have hn := (vG_n hv).2
  have e1 := ev_lim (ev_validGraph n es c  (by omega))
  have e2 := ev_lim (ev_degrees n es c (by omega) hl (vG_in hv))
  refine call_of_wp tb_spec_DegreesOf rfl ?_
  repeat (first | refine wp_as ?_ | refine wp_ss ?_ | refine wp_rs (by simp [e1, e2, hv]; with_reducible rfl) (by simp; with_reducible rfl) ?_ | refine wp_reg (by simp [e1, e2, hv]; with_reducible rfl) (by simp; with_reducible rfl) ?_ | (refine wp_ct (t := true) ?_ (fun _ => ?_) (fun hh => nomatch hh); focus (simp [e1, e2, hv]; done)) | (refine wp_ct (t := false) ?_ (fun hh => nomatch hh) (fun _ => ?_); focus (simp [e1, e2, hv]; done)) | (refine wp_c (t := true) ?_ (fun _ => ?_) (fun hh => nomatch hh); focus (simp [e1, e2, hv]; done)) | (refine wp_c (t := false) ?_ (fun hh => nomatch hh) (fun _ => ?_); focus (simp [e1, e2, hv]; done)) | refine wp_bs ?_ | refine wp_b ?_ | refine wp_sr ?_ | refine wp_sx ?_ | refine wp_ret' ?_ | refine wp_skip' ?_ | refine wp_exit' ?_)
  simp [if_spec_DegreesOf]

theorem ev_spec_DegreesOf_no (n : Int) (es : List (Int × Int)) (c : Bool) (hf : Fit es) (hl : es.length ≤ 1000) (hv : vGraph n es = false) : Ev tb l_spec_DegreesOf [] [Gr n es c] [] ⟨Z, [], [], []⟩ := by
  have e1 := ev_lim (ev_validGraph n es c  (by omega))
  refine call_of_wp tb_spec_DegreesOf rfl ?_
  repeat (first | refine wp_as ?_ | refine wp_ss ?_ | refine wp_rs (by simp [e1, hv]; with_reducible rfl) (by simp; with_reducible rfl) ?_ | refine wp_reg (by simp [e1, hv]; with_reducible rfl) (by simp; with_reducible rfl) ?_ | (refine wp_ct (t := true) ?_ (fun _ => ?_) (fun hh => nomatch hh); focus (simp [e1, hv]; done)) | (refine wp_ct (t := false) ?_ (fun hh => nomatch hh) (fun _ => ?_); focus (simp [e1, hv]; done)) | (refine wp_c (t := true) ?_ (fun _ => ?_) (fun hh => nomatch hh); focus (simp [e1, hv]; done)) | (refine wp_c (t := false) ?_ (fun hh => nomatch hh) (fun _ => ?_); focus (simp [e1, hv]; done)) | refine wp_bs ?_ | refine wp_b ?_ | refine wp_sr ?_ | refine wp_sx ?_ | refine wp_ret' ?_ | refine wp_skip' ?_ | refine wp_exit' ?_)
  simp [if_spec_DegreesOf]

theorem ev_ValidGraph_Z (n : Int) : Ev tb l_impl_ValidGraph [] [.agg [I n, Z]] [] ⟨Bo (vGraph n []), [], [], []⟩ := by
  have e1 := ev_lim (ev_in n 0 7)
  refine call_of_wp tb_impl_ValidGraph rfl ?_
  repeat (first | refine wp_as ?_ | refine wp_ss ?_ | refine wp_rs (by simp; with_reducible rfl) (by simp; with_reducible rfl) ?_ | refine wp_reg (by simp; with_reducible rfl) (by simp; with_reducible rfl) ?_ | (refine wp_ct (t := true) ?_ (fun _ => ?_) (fun hh => nomatch hh); focus (simp; done)) | (refine wp_ct (t := false) ?_ (fun hh => nomatch hh) (fun _ => ?_); focus (simp; done)) | (refine wp_c (t := true) ?_ (fun _ => ?_) (fun hh => nomatch hh); focus (simp; done)) | (refine wp_c (t := false) ?_ (fun hh => nomatch hh) (fun _ => ?_); focus (simp; done)) | refine wp_bs ?_ | refine wp_b ?_ | refine wp_sr ?_ | refine wp_sx ?_ | refine wp_ret' ?_ | refine wp_skip' ?_ | refine wp_exit' ?_)
  refine wp_loop ?_
  repeat (first | refine wp_as ?_ | refine wp_ss ?_ | refine wp_rs (by simp; with_reducible rfl) (by simp; with_reducible rfl) ?_ | refine wp_reg (by simp; with_reducible rfl) (by simp; with_reducible rfl) ?_ | (refine wp_ct (t := true) ?_ (fun _ => ?_) (fun hh => nomatch hh); focus (simp; done)) | (refine wp_ct (t := false) ?_ (fun hh => nomatch hh) (fun _ => ?_); focus (simp; done)) | (refine wp_c (t := true) ?_ (fun _ => ?_) (fun hh => nomatch hh); focus (simp; done)) | (refine wp_c (t := false) ?_ (fun hh => nomatch hh) (fun _ => ?_); focus (simp; done)) | refine wp_bs ?_ | refine wp_b ?_ | refine wp_sr ?_ | refine wp_sx ?_ | refine wp_ret' ?_ | refine wp_skip' ?_ | refine wp_exit' ?_)
  try simp only [if_true]
  repeat (first | refine wp_as ?_ | refine wp_ss ?_ | refine wp_rs (by simp [e1]; with_reducible rfl) (by simp; with_reducible rfl) ?_ | refine wp_reg (by simp [e1]; with_reducible rfl) (by simp; with_reducible rfl) ?_ | (refine wp_ct (t := true) ?_ (fun _ => ?_) (fun hh => nomatch hh); focus (simp [e1]; done)) | (refine wp_ct (t := false) ?_ (fun hh => nomatch hh) (fun _ => ?_); focus (simp [e1]; done)) | (refine wp_c (t := true) ?_ (fun _ => ?_) (fun hh => nomatch hh); focus (simp [e1]; done)) | (refine wp_c (t := false) ?_ (fun hh => nomatch hh) (fun _ => ?_); focus (simp [e1]; done)) | refine wp_bs ?_ | refine wp_b ?_ | refine wp_sr ?_ | refine wp_sx ?_ | refine wp_ret' ?_ | refine wp_skip' ?_ | refine wp_exit' ?_)
  simp [if_impl_ValidGraph, vGraph, vEs]

theorem ev_Graph_degrees_Z (n : Nat) (hn : n ≤ 1000) : Ev tb l_impl_Graph_degrees [] [.agg [I n, Z]] [] ⟨O (degs n []), [], [], []⟩ := by
  refine call_of_wp tb_impl_Graph_degrees rfl ?_
  repeat (first | refine wp_as ?_ | refine wp_ss ?_ | refine wp_rs (by simp [show n ≤ 274877906944 by omega]; with_reducible rfl) (by simp; with_reducible rfl) ?_ | refine wp_reg (by simp [show n ≤ 274877906944 by omega]; with_reducible rfl) (by simp; with_reducible rfl) ?_ | (refine wp_ct (t := true) ?_ (fun _ => ?_) (fun hh => nomatch hh); focus (simp [show n ≤ 274877906944 by omega]; done)) | (refine wp_ct (t := false) ?_ (fun hh => nomatch hh) (fun _ => ?_); focus (simp [show n ≤ 274877906944 by omega]; done)) | (refine wp_c (t := true) ?_ (fun _ => ?_) (fun hh => nomatch hh); focus (simp [show n ≤ 274877906944 by omega]; done)) | (refine wp_c (t := false) ?_ (fun hh => nomatch hh) (fun _ => ?_); focus (simp [show n ≤ 274877906944 by omega]; done)) | refine wp_bs ?_ | refine wp_b ?_ | refine wp_sr ?_ | refine wp_sx ?_ | refine wp_ret' ?_ | refine wp_skip' ?_ | refine wp_exit' ?_)
  refine wp_loop ?_
  repeat (first | refine wp_as ?_ | refine wp_ss ?_ | refine wp_rs (by simp; with_reducible rfl) (by simp; with_reducible rfl) ?_ | refine wp_reg (by simp; with_reducible rfl) (by simp; with_reducible rfl) ?_ | (refine wp_ct (t := true) ?_ (fun _ => ?_) (fun hh => nomatch hh); focus (simp; done)) | (refine wp_ct (t := false) ?_ (fun hh => nomatch hh) (fun _ => ?_); focus (simp; done)) | (refine wp_c (t := true) ?_ (fun _ => ?_) (fun hh => nomatch hh); focus (simp; done)) | (refine wp_c (t := false) ?_ (fun hh => nomatch hh) (fun _ => ?_); focus (simp; done)) | refine wp_bs ?_ | refine wp_b ?_ | refine wp_sr ?_ | refine wp_sx ?_ | refine wp_ret' ?_ | refine wp_skip' ?_ | refine wp_exit' ?_)
  try simp only [if_true]
  repeat (first | refine wp_as ?_ | refine wp_ss ?_ | refine wp_rs (by simp; with_reducible rfl) (by simp; with_reducible rfl) ?_ | refine wp_reg (by simp; with_reducible rfl) (by simp; with_reducible rfl) ?_ | (refine wp_ct (t := true) ?_ (fun _ => ?_) (fun hh => nomatch hh); focus (simp; done)) | (refine wp_ct (t := false) ?_ (fun hh => nomatch hh) (fun _ => ?_); focus (simp; done)) | (refine wp_c (t := true) ?_ (fun _ => ?_) (fun hh => nomatch hh); focus (simp; done)) | (refine wp_c (t := false) ?_ (fun hh => nomatch hh) (fun _ => ?_); focus (simp; done)) | refine wp_bs ?_ | refine wp_b ?_ | refine wp_sr ?_ | refine wp_sx ?_ | refine wp_ret' ?_ | refine wp_skip' ?_ | refine wp_exit' ?_)
  simp [if_impl_Graph_degrees, degs, dfold]

theorem ev_DegreesOf_Z (n : Nat) (hn : n ≤ 7) : Ev tb l_impl_DegreesOf [] [.agg [I n, Z]] [] ⟨O (degs n []), [], [], []⟩ := by
  have e1 := ev_lim (ev_ValidGraph_Z n)
  have e2 := ev_lim (ev_Graph_degrees_Z n (by omega))
  have hv : vGraph n [] = true := by simp [vGraph, vEs]; omega
  refine call_of_wp tb_impl_DegreesOf rfl ?_
  repeat (first | refine wp_as ?_ | refine wp_ss ?_ | refine wp_rs (by simp [e1, e2, hv]; with_reducible rfl) (by simp; with_reducible rfl) ?_ | refine wp_reg (by simp [e1, e2, hv]; with_reducible rfl) (by simp; with_reducible rfl) ?_ | (refine wp_ct (t := true) ?_ (fun _ => ?_) (fun hh => nomatch hh); focus (simp [e1, e2, hv]; done)) | (refine wp_ct (t := false) ?_ (fun hh => nomatch hh) (fun _ => ?_); focus (simp [e1, e2, hv]; done)) | (refine wp_c (t := true) ?_ (fun _ => ?_) (fun hh => nomatch hh); focus (simp [e1, e2, hv]; done)) | (refine wp_c (t := false) ?_ (fun hh => nomatch hh) (fun _ => ?_); focus (simp [e1, e2, hv]; done)) | refine wp_bs ?_ | refine wp_b ?_ | refine wp_sr ?_ | refine wp_sx ?_ | refine wp_ret' ?_ | refine wp_skip' ?_ | refine wp_exit' ?_)
  simp [if_impl_DegreesOf]

end Go.Idl

namespace Go.Idl

open Go

/-- A small graph, valid or not. -/
structure SmallG (n : Int) (es : List (Int × Int)) : Prop where
  n1 : -1 ≤ n
  n2 : n ≤ 8
  len : es.length ≤ 60
  el : ∀ e ∈ es, -1 ≤ e.1 ∧ e.1 ≤ 8 ∧ -1 ≤ e.2 ∧ e.2 ≤ 8

theorem SmallG.fit {n es} (h : SmallG n es) : Fit es := fun e he => by have := h.el e he; omega

theorem good_small {n : Nat} {es : List (Int × Int)} (hn : n ≤ 7) (hs : es.Sublist (prs n)) : SmallG n es :=
  ⟨by omega, by omega, by have := prs_len hn hs; omega, fun e he => by have := prs_in hs e he; omega⟩

theorem small_set {n : Int} {es : List (Int × Int)} (h : SmallG n es) {k : Nat} {e : Int × Int} (he : -1 ≤ e.1 ∧ e.1 ≤ 8 ∧ -1 ≤ e.2 ∧ e.2 ≤ 8) : SmallG n (es.set k e) :=
  ⟨h.n1, h.n2, by rw [List.length_set]; exact h.len, fun x hx => by
    rcases List.mem_or_eq_of_mem_set hx with hx | rfl
    · exact h.el x hx
    · exact he⟩

theorem ev_someGraph (code : List Int) (c : Bool) (hc : CodeOk code) (cnt : Nat) (hn : cnt ≤ 80000) (A bs : Boxes) (Ms : List Boxes) :
    ∃ (n : Int) (es : List (Int × Int)) (k : Nat), SmallG n es ∧ k ≤ cnt + 110 ∧
      limF tb l_spec_someGraph [] [.bptr 0 A.length 0] ((A ++ R code c cnt :: bs) :: Ms) = some ⟨OG n es, [], (A ++ R code c k :: bs) :: Ms, []⟩ := by
  obtain ⟨n, es, k1, hn7, hs, hk1, e1⟩ := ev_goodGraphA code c hc cnt (by omega) A bs (Ms ++ [[]])
  have e1 := ev_lim e1
  have hS := good_small hn7 hs
  have hel := hS.len
  suffices hh : ∃ r, (∃ (n : Int) (es : List (Int × Int)) (k : Nat), SmallG n es ∧ k ≤ cnt + 110 ∧ r = ⟨OG n es, [], (A ++ R code c k :: bs) :: Ms, []⟩) ∧ Ev tb l_spec_someGraph [] [.bptr 0 A.length 0] ((A ++ R code c cnt :: bs) :: Ms) r by
    obtain ⟨r, ⟨n, es, k, q1, q2, rfl⟩, q3⟩ := hh
    exact ⟨n, es, k, q1, q2, ev_lim q3⟩
  refine call_ex tb_spec_someGraph rfl ?_
  by_cases h0 : es.length = 0
  · have h00 : es = [] := List.length_eq_zero_iff.1 h0
    subst h00
    repeat (first | refine wp_as ?_ | refine wp_ss ?_ | refine wp_rs (by simp [e1]; with_reducible rfl) (by simp; with_reducible rfl) ?_ | refine wp_reg (by simp [e1]; with_reducible rfl) (by simp; with_reducible rfl) ?_ | (refine wp_ct (t := true) ?_ (fun _ => ?_) (fun hh => nomatch hh); focus (simp [e1]; done)) | (refine wp_ct (t := false) ?_ (fun hh => nomatch hh) (fun _ => ?_); focus (simp [e1]; done)) | (refine wp_c (t := true) ?_ (fun _ => ?_) (fun hh => nomatch hh); focus (simp [e1]; done)) | (refine wp_c (t := false) ?_ (fun hh => nomatch hh) (fun _ => ?_); focus (simp [e1]; done)) | refine wp_bs ?_ | refine wp_b ?_ | refine wp_sr ?_ | refine wp_sx ?_ | refine wp_ret' ?_ | refine wp_skip' ?_ | refine wp_exit' ?_)
    refine ⟨.inr rfl, _, ⟨n, [], k1, hS, by omega, rfl⟩, ?_⟩
    simp [if_spec_someGraph]
  have h1 : (0 : Int) < es.length := by omega
  have h1' : 0 < es.length := by omega
  obtain ⟨v, k2, hv, hk2, e2⟩ := pickA code c hc k1 (by omega) (es.length : Int) (by omega) A bs (Ms ++ [[]])
  have hv := hv (by omega)
  have hvl : v < es.length := by omega
  obtain ⟨u, k3, -, hk3, e3⟩ := pickA code c hc k2 (by omega) 30 (by omega) A bs (Ms ++ [[]])
  have hev := hS.el es[v] (List.getElem_mem hvl)
  by_cases hu0 : u = 0
  · subst hu0
    obtain ⟨x, k4, hx, hk4, e4⟩ := oneA code c hc k3 (by omega) [-1, 7, es[v].2] (by simp) A bs (Ms ++ [[]])
    have hx : -1 ≤ x ∧ x ≤ 8 := by simp at hx; omega
    repeat (first | refine wp_as ?_ | refine wp_ss ?_ | refine wp_rs (by simp [e1, e2, e3, h1, h1']; with_reducible rfl) (by simp; with_reducible rfl) ?_ | refine wp_reg (by simp [e1, e2, e3, h1, h1']; with_reducible rfl) (by simp; with_reducible rfl) ?_ | (refine wp_ct (t := true) ?_ (fun _ => ?_) (fun hh => nomatch hh); focus (simp [e1, e2, e3, h1, h1']; done)) | (refine wp_ct (t := false) ?_ (fun hh => nomatch hh) (fun _ => ?_); focus (simp [e1, e2, e3, h1, h1']; done)) | (refine wp_c (t := true) ?_ (fun _ => ?_) (fun hh => nomatch hh); focus (simp [e1, e2, e3, h1, h1']; done)) | (refine wp_c (t := false) ?_ (fun hh => nomatch hh) (fun _ => ?_); focus (simp [e1, e2, e3, h1, h1']; done)) | refine wp_bs ?_ | refine wp_b ?_ | refine wp_sr ?_ | refine wp_sx ?_ | refine wp_ret' ?_ | refine wp_skip' ?_ | refine wp_exit' ?_)
    refine wp_rega (by simp [hvl, e4]; with_reducible rfl) (by simp; with_reducible rfl) ?_ ?_
    · intro p hp
      simp only [List.mem_cons, List.not_mem_nil, or_false] at hp
      rcases hp with rfl | rfl
      · exact ⟨_, by simp [hvl, e4]; with_reducible rfl, by simp⟩
      · exact ⟨_, by simp [hvl, e4]; with_reducible rfl, by simp⟩
    repeat (first | refine wp_as ?_ | refine wp_ss ?_ | refine wp_rs (by simp; with_reducible rfl) (by simp; with_reducible rfl) ?_ | refine wp_reg (by simp; with_reducible rfl) (by simp; with_reducible rfl) ?_ | (refine wp_ct (t := true) ?_ (fun _ => ?_) (fun hh => nomatch hh); focus (simp; done)) | (refine wp_ct (t := false) ?_ (fun hh => nomatch hh) (fun _ => ?_); focus (simp; done)) | (refine wp_c (t := true) ?_ (fun _ => ?_) (fun hh => nomatch hh); focus (simp; done)) | (refine wp_c (t := false) ?_ (fun hh => nomatch hh) (fun _ => ?_); focus (simp; done)) | refine wp_bs ?_ | refine wp_b ?_ | refine wp_sr ?_ | refine wp_sx ?_ | refine wp_ret' ?_ | refine wp_skip' ?_ | refine wp_exit' ?_)
    refine ⟨.inr rfl, _, ⟨n, es.set v (x, es[v].2), k4, small_set hS ⟨by omega, by omega, by omega, by omega⟩, by omega, rfl⟩, ?_⟩
    simp [if_spec_someGraph]
    rw [List.take_of_length_le (by simp)]
  by_cases hu1 : u = 1
  · subst hu1
    have hap : SmallG n (es ++ [es[v]]) := ⟨hS.n1, hS.n2, by have := prs_len hn7 hs; simp; omega, fun e he => by
      rcases List.mem_append.1 he with he | he
      · exact hS.el e he
      · simp at he; subst he; exact hev⟩
    have hlm : es.length + 1 ≤ 274877906944 := by omega
    repeat (first | refine wp_as ?_ | refine wp_ss ?_ | refine wp_rs (by simp [e1, e2, e3, h1, h1']; with_reducible rfl) (by simp; with_reducible rfl) ?_ | refine wp_reg (by simp [e1, e2, e3, h1, h1']; with_reducible rfl) (by simp; with_reducible rfl) ?_ | (refine wp_ct (t := true) ?_ (fun _ => ?_) (fun hh => nomatch hh); focus (simp [e1, e2, e3, h1, h1']; done)) | (refine wp_ct (t := false) ?_ (fun hh => nomatch hh) (fun _ => ?_); focus (simp [e1, e2, e3, h1, h1']; done)) | (refine wp_c (t := true) ?_ (fun _ => ?_) (fun hh => nomatch hh); focus (simp [e1, e2, e3, h1, h1']; done)) | (refine wp_c (t := false) ?_ (fun hh => nomatch hh) (fun _ => ?_); focus (simp [e1, e2, e3, h1, h1']; done)) | refine wp_bs ?_ | refine wp_b ?_ | refine wp_sr ?_ | refine wp_sx ?_ | refine wp_ret' ?_ | refine wp_skip' ?_ | refine wp_exit' ?_)
    refine wp_rega (by simp [hvl, hlm]; with_reducible rfl) (by simp; with_reducible rfl) ?_ ?_
    · intro p hp
      simp only [List.mem_cons, List.not_mem_nil, or_false] at hp
      subst hp
      exact ⟨_, by simp [hvl, hlm]; with_reducible rfl, by simp⟩
    repeat (first | refine wp_as ?_ | refine wp_ss ?_ | refine wp_rs (by simp; with_reducible rfl) (by simp; with_reducible rfl) ?_ | refine wp_reg (by simp; with_reducible rfl) (by simp; with_reducible rfl) ?_ | (refine wp_ct (t := true) ?_ (fun _ => ?_) (fun hh => nomatch hh); focus (simp; done)) | (refine wp_ct (t := false) ?_ (fun hh => nomatch hh) (fun _ => ?_); focus (simp; done)) | (refine wp_c (t := true) ?_ (fun _ => ?_) (fun hh => nomatch hh); focus (simp; done)) | (refine wp_c (t := false) ?_ (fun hh => nomatch hh) (fun _ => ?_); focus (simp; done)) | refine wp_bs ?_ | refine wp_b ?_ | refine wp_sr ?_ | refine wp_sx ?_ | refine wp_ret' ?_ | refine wp_skip' ?_ | refine wp_exit' ?_)
    refine ⟨.inr rfl, _, ⟨n, es ++ [es[v]], k3, hap, by omega, rfl⟩, ?_⟩
    simp [if_spec_someGraph]
    rw [List.take_of_length_le (by simp)]
  have hu0' : ¬ (u : Int) = 0 := by omega
  have hu1' : ¬ (u : Int) = 1 := by omega
  by_cases hu2 : u = 2
  · subst hu2
    obtain ⟨x, k4, hx, hk4, e4⟩ := oneA code c hc k3 (by omega) [-1, 8, 2] (by simp) A bs (Ms ++ [[]])
    have hx : -1 ≤ x ∧ x ≤ 8 := by simp at hx; omega
    repeat (first | refine wp_as ?_ | refine wp_ss ?_ | refine wp_rs (by simp [e1, e2, e3, e4, h1, h1']; with_reducible rfl) (by simp; with_reducible rfl) ?_ | refine wp_reg (by simp [e1, e2, e3, e4, h1, h1']; with_reducible rfl) (by simp; with_reducible rfl) ?_ | (refine wp_ct (t := true) ?_ (fun _ => ?_) (fun hh => nomatch hh); focus (simp [e1, e2, e3, e4, h1, h1']; done)) | (refine wp_ct (t := false) ?_ (fun hh => nomatch hh) (fun _ => ?_); focus (simp [e1, e2, e3, e4, h1, h1']; done)) | (refine wp_c (t := true) ?_ (fun _ => ?_) (fun hh => nomatch hh); focus (simp [e1, e2, e3, e4, h1, h1']; done)) | (refine wp_c (t := false) ?_ (fun hh => nomatch hh) (fun _ => ?_); focus (simp [e1, e2, e3, e4, h1, h1']; done)) | refine wp_bs ?_ | refine wp_b ?_ | refine wp_sr ?_ | refine wp_sx ?_ | refine wp_ret' ?_ | refine wp_skip' ?_ | refine wp_exit' ?_)
    refine ⟨.inr rfl, _, ⟨x, es, k4, ⟨hx.1, hx.2, hS.len, hS.el⟩, by omega, rfl⟩, ?_⟩
    simp [if_spec_someGraph]
  · have hu2' : ¬ (u : Int) = 2 := by omega
    repeat (first | refine wp_as ?_ | refine wp_ss ?_ | refine wp_rs (by simp [e1, e2, e3, h1, h1', hu0, hu1, hu2, hu0', hu1', hu2']; with_reducible rfl) (by simp; with_reducible rfl) ?_ | refine wp_reg (by simp [e1, e2, e3, h1, h1', hu0, hu1, hu2, hu0', hu1', hu2']; with_reducible rfl) (by simp; with_reducible rfl) ?_ | (refine wp_ct (t := true) ?_ (fun _ => ?_) (fun hh => nomatch hh); focus (simp [e1, e2, e3, h1, h1', hu0, hu1, hu2, hu0', hu1', hu2']; done)) | (refine wp_ct (t := false) ?_ (fun hh => nomatch hh) (fun _ => ?_); focus (simp [e1, e2, e3, h1, h1', hu0, hu1, hu2, hu0', hu1', hu2']; done)) | (refine wp_c (t := true) ?_ (fun _ => ?_) (fun hh => nomatch hh); focus (simp [e1, e2, e3, h1, h1', hu0, hu1, hu2, hu0', hu1', hu2']; done)) | (refine wp_c (t := false) ?_ (fun hh => nomatch hh) (fun _ => ?_); focus (simp [e1, e2, e3, h1, h1', hu0, hu1, hu2, hu0', hu1', hu2']; done)) | refine wp_bs ?_ | refine wp_b ?_ | refine wp_sr ?_ | refine wp_sx ?_ | refine wp_ret' ?_ | refine wp_skip' ?_ | refine wp_exit' ?_)
    refine ⟨.inr rfl, _, ⟨n, es, k3, hS, by omega, rfl⟩, ?_⟩
    simp [if_spec_someGraph]

end Go.Idl

namespace Go.Idl

theorem comp_map (d : List Int) : comp d = d.map fun x => (d.length : Int) - 1 - x := by
  refine List.ext_getElem (by simp [comp]) fun i h1 h2 => ?_
  simp [comp] at h1 ⊢
  rw [List.getElem?_eq_getElem h1]; rfl

end Go.Idl

namespace Go.Idl

/-- A sum over a list. -/
def S {α : Type} (l : List α) (f : α → Int) : Int := (l.map f).sum

section

variable {α β : Type}

@[simp] theorem S_nil (f : α → Int) : S [] f = 0 := rfl

@[simp] theorem S_cons (a : α) (l : List α) (f : α → Int) : S (a :: l) f = f a + S l f := by simp [S]

theorem S_perm {l k : List α} (h : l.Perm k) (f : α → Int) : S l f = S k f := perm_sum (h.map f)

theorem S_add (l : List α) (f g : α → Int) : S l (fun a => f a + g a) = S l f + S l g := by
  induction l with
  | nil => rfl
  | cons a l ih => simp only [S_cons, ih]; omega

theorem S_sub (l : List α) (f g : α → Int) : S l (fun a => f a - g a) = S l f - S l g := by
  induction l with
  | nil => rfl
  | cons a l ih => simp only [S_cons, ih]; omega

theorem S_zero (l : List α) : S l (fun _ => 0) = 0 := by
  induction l with
  | nil => rfl
  | cons a l ih => simp [ih]

theorem S_const (l : List α) (c : Int) : S l (fun _ => c) = l.length * c := by
  induction l with
  | nil => simp
  | cons a l ih => rw [S_cons, ih, List.length_cons, Int.natCast_add, Int.add_mul]; simp; omega

theorem S_congr {l : List α} {f g : α → Int} (h : ∀ a ∈ l, f a = g a) : S l f = S l g := by
  induction l with
  | nil => rfl
  | cons a l ih => rw [S_cons, S_cons, h a (by simp), ih fun b hb => h b (by simp [hb])]

theorem S_le {l : List α} {f g : α → Int} (h : ∀ a ∈ l, f a ≤ g a) : S l f ≤ S l g := by
  induction l with
  | nil => simp
  | cons a l ih =>
    have h1 := h a (by simp)
    have h2 := ih fun b hb => h b (by simp [hb])
    simp only [S_cons]; omega

theorem S_swap (l : List α) (k : List β) (f : α → β → Int) : S l (fun a => S k (f a)) = S k (fun b => S l (fun a => f a b)) := by
  induction l with
  | nil => simp [S_zero]
  | cons a l ih => simp only [S_cons, S_add, ih]

theorem S_mul (l : List α) (f : α → Int) (c : Int) : S l (fun a => c * f a) = c * S l f := by
  induction l with
  | nil => simp
  | cons a l ih => rw [S_cons, S_cons, ih, Int.mul_add]

theorem S_mulr (l : List α) (f : α → Int) (c : Int) : S l (fun a => f a * c) = S l f * c := by
  induction l with
  | nil => simp
  | cons a l ih => rw [S_cons, S_cons, ih, Int.add_mul]

theorem S_sublist {l k : List α} (h : l.Sublist k) {f : α → Int} (h0 : ∀ a ∈ k, 0 ≤ f a) : S l f ≤ S k f := by
  induction h with
  | slnil => simp
  | cons a _ ih =>
    have h1 := h0 a (by simp)
    have h2 := ih fun b hb => h0 b (by simp [hb])
    rw [S_cons]; omega
  | cons_cons a _ ih =>
    have h2 := ih fun b hb => h0 b (by simp [hb])
    rw [S_cons, S_cons]; omega

theorem S_nonneg {l : List α} {f : α → Int} (h : ∀ a ∈ l, 0 ≤ f a) : 0 ≤ S l f := by
  have := S_le (l := l) (f := fun _ => 0) h
  rwa [S_zero] at this

theorem S_filter (l : List α) (p : α → Bool) (f : α → Int) : S (l.filter p) f + S (l.filter fun a => !p a) f = S l f := by
  induction l with
  | nil => rfl
  | cons a l ih =>
    cases hp : p a with
    | true => simp only [List.filter_cons, hp, if_true, Bool.not_true, Bool.false_eq_true, if_false, S_cons]; omega
    | false => simp only [List.filter_cons, hp, if_true, Bool.not_false, Bool.false_eq_true, if_false, S_cons]; omega

/-- A list like an image is an image of a list. -/
theorem perm_map_inv {f : α → β} {ys zs : List β} (h : ys.Perm zs) : ∀ {l : List α}, zs = l.map f → ∃ l' : List α, l'.Perm l ∧ ys = l'.map f := by
  induction h with
  | nil => intro l hl; exact ⟨l, .refl _, hl⟩
  | cons x _ ih =>
    intro l hl
    cases l with
    | nil => simp at hl
    | cons a l =>
      simp only [List.map_cons, List.cons.injEq] at hl
      obtain ⟨l', h1, h2⟩ := ih hl.2
      exact ⟨a :: l', h1.cons a, by rw [List.map_cons, ← h2, hl.1]⟩
  | swap x y r =>
    intro l hl
    cases l with
    | nil => simp at hl
    | cons a l =>
      cases l with
      | nil => simp at hl
      | cons b l =>
        simp only [List.map_cons, List.cons.injEq] at hl
        exact ⟨b :: a :: l, .swap a b l, by simp [hl.1, hl.2.1, hl.2.2]⟩
  | trans _ _ ih1 ih2 =>
    intro l hl
    obtain ⟨l2, h1, h2⟩ := ih2 hl
    obtain ⟨l3, h3, h4⟩ := ih1 h2
    exact ⟨l3, h3.trans h1, h4⟩

/-- In a list without repetitions an element counts once. -/
theorem S_one [DecidableEq α] {l : List α} (h : l.Nodup) (x : α) : S l (fun a => if x = a then 1 else 0) = if x ∈ l then 1 else 0 := by
  induction l with
  | nil => simp
  | cons a l ih =>
    have h' := List.nodup_cons.1 h
    rw [S_cons, ih h'.2]
    by_cases hx : x = a
    · subst hx; simp [h'.1]
    · simp [hx]

end

/- Order of pairs. -/

theorem below_iff (a b : Int × Int) : below a b = true ↔ a.1 < b.1 ∨ (a.1 = b.1 ∧ a.2 < b.2) := by simp [below]

theorem below_trans {a b c : Int × Int} (h : below a b = true) (k : below b c = true) : below a c = true := by
  rw [below_iff] at *; omega

theorem below_ne {a b : Int × Int} (h : below a b = true) : a ≠ b := by
  rintro rfl; rw [below_iff] at h; omega

abbrev PW (es : List (Int × Int)) : Prop := es.Pairwise fun a b => below a b = true

theorem vEs_pw (n : Int) : ∀ (p : Option (Int × Int)) (es : List (Int × Int)), vEs n p es = true → PW es ∧ (∀ q, p = some q → ∀ e ∈ es, below q e = true)
  | p, [], _ => ⟨.nil, by simp⟩
  | none, e :: r, h => by
    simp only [vEs, Bool.and_eq_true] at h
    obtain ⟨h1, h2⟩ := vEs_pw n (some e) r h.2
    exact ⟨List.pairwise_cons.2 ⟨h2 e rfl, h1⟩, by simp⟩
  | some q, e :: r, h => by
    simp only [vEs, Bool.and_eq_true] at h
    obtain ⟨h1, h2⟩ := vEs_pw n (some e) r h.2.2
    refine ⟨List.pairwise_cons.2 ⟨h2 e rfl, h1⟩, fun q' hq' x hx => ?_⟩
    cases hq'
    rcases List.mem_cons.1 hx with rfl | hx
    · exact h.2.1
    · exact below_trans h.2.1 (h2 e rfl x hx)

theorem pw_vEs (n : Int) : ∀ (p : Option (Int × Int)) (es : List (Int × Int)), PW es → (∀ q, p = some q → ∀ e ∈ es, below q e = true) → (∀ e ∈ es, okE n e = true) → vEs n p es = true
  | p, [], _, _, _ => by cases p <;> rfl
  | none, e :: r, h, _, ho => by
    have h' := List.pairwise_cons.1 h
    simp only [vEs, Bool.and_eq_true]
    exact ⟨ho e (by simp), pw_vEs n (some e) r h'.2 (fun q hq x hx => by cases hq; exact h'.1 x hx) fun x hx => ho x (by simp [hx])⟩
  | some q, e :: r, h, hq, ho => by
    have h' := List.pairwise_cons.1 h
    simp only [vEs, Bool.and_eq_true]
    exact ⟨ho e (by simp), hq q rfl e (by simp), pw_vEs n (some e) r h'.2 (fun q hq x hx => by cases hq; exact h'.1 x hx) fun x hx => ho x (by simp [hx])⟩

theorem row_mem_iff (a : Nat) : ∀ (m b : Nat) (e : Int × Int), e ∈ row a b m ↔ e.1 = a ∧ (b : Int) ≤ e.2 ∧ e.2 < b + m
  | 0, b, e => by simp [row] <;> omega
  | m + 1, b, e => by
    rw [row, List.mem_cons, row_mem_iff a m (b + 1) e]
    constructor
    · rintro (rfl | h)
      · simp; omega
      · omega
    · intro h
      by_cases h2 : e.2 = b
      · exact .inl (Prod.ext h.1 h2)
      · exact .inr (by omega)

theorem prsF_mem_iff : ∀ (m a : Nat) (e : Int × Int), e ∈ prsF a m ↔ (a : Int) ≤ e.1 ∧ e.1 < e.2 ∧ e.2 < a + m
  | 0, a, e => by simp [prsF]; omega
  | m + 1, a, e => by
    rw [prsF, List.mem_append, row_mem_iff, prsF_mem_iff m (a + 1) e]
    omega

theorem mem_prs {n : Nat} {e : Int × Int} : e ∈ prs n ↔ 0 ≤ e.1 ∧ e.1 < e.2 ∧ e.2 < n := by
  rw [prs, prsF_mem_iff]; omega

theorem row_pw (a : Nat) : ∀ (m b : Nat), PW (row a b m)
  | 0, b => .nil
  | m + 1, b => by
    rw [row]
    refine List.pairwise_cons.2 ⟨fun e he => ?_, row_pw a m (b + 1)⟩
    rw [row_mem_iff] at he
    rw [below_iff]; simp only; omega

theorem prsF_pw : ∀ (m a : Nat), PW (prsF a m)
  | 0, a => .nil
  | m + 1, a => by
    rw [prsF]
    refine List.pairwise_append.2 ⟨row_pw a m (a + 1), prsF_pw m (a + 1), fun x hx y hy => ?_⟩
    rw [row_mem_iff] at hx
    rw [prsF_mem_iff] at hy
    rw [below_iff]; omega

theorem prs_pw (n : Nat) : PW (prs n) := prsF_pw n 0

theorem pw_nodup {es : List (Int × Int)} (h : PW es) : es.Nodup := h.imp fun h => below_ne h

theorem pw_ext {xs ys : List (Int × Int)} (hx : PW xs) (hy : PW ys) (h : ∀ e, e ∈ xs ↔ e ∈ ys) : xs = ys := by
  refine List.Perm.eq_of_pairwise (le := fun a b => below a b = true) (fun a b _ _ h1 h2 => absurd (below_trans h1 h2) (fun h => below_ne h rfl)) hx hy ?_
  exact (List.perm_ext_iff_of_nodup (pw_nodup hx) (pw_nodup hy)).2 h

theorem vG_iff {n : Nat} {es : List (Int × Int)} : vGraph n es = true ↔ PW es ∧ (∀ e ∈ es, e ∈ prs n) ∧ n ≤ 7 := by
  constructor
  · intro h
    have h1 := vG_n h
    have h2 := vG_edges h
    simp only [vGraph, Bool.and_eq_true] at h
    exact ⟨(vEs_pw n none es h.1).1, fun e he => mem_prs.2 (h2 e he), by omega⟩
  · rintro ⟨h1, h2, h3⟩
    simp only [vGraph, Bool.and_eq_true, decide_eq_true_eq]
    refine ⟨pw_vEs n none es h1 (by simp) fun e he => ?_, by omega, by omega⟩
    have := mem_prs.1 (h2 e he)
    simp only [okE, Bool.and_eq_true, decide_eq_true_eq]; omega

theorem filter_vG {n : Nat} (hn : n ≤ 7) (p : Int × Int → Bool) : vGraph n ((prs n).filter p) = true :=
  vG_iff.2 ⟨(prs_pw n).filter _, fun e he => (List.mem_filter.1 he).1, hn⟩

theorem vG_filter {n : Nat} {es : List (Int × Int)} (h : vGraph n es = true) : es = (prs n).filter fun e => decide (e ∈ es) := by
  obtain ⟨h1, h2, h3⟩ := vG_iff.1 h
  refine pw_ext h1 ((prs_pw n).filter _) fun e => ?_
  rw [List.mem_filter, decide_eq_true_eq]
  exact ⟨fun he => ⟨h2 e he, he⟩, fun he => he.2⟩

theorem vG_sub {n : Nat} {es : List (Int × Int)} (h : vGraph n es = true) : es.Sublist (prs n) := by
  rw [vG_filter h]; exact List.filter_sublist

theorem compM_vG {n : Nat} (hn : n ≤ 7) (es : List (Int × Int)) : vGraph n (compM n es) = true := filter_vG hn _

theorem hasM_mem {n : Nat} {es : List (Int × Int)} {e : Int × Int} (he : e ∈ prs n) : hasM es e.1 e.2 = decide (e ∈ es) := by
  have := mem_prs.1 he
  have h1 : (min e.1 e.2, max e.1 e.2) = e := Prod.ext (by simp; omega) (by simp; omega)
  rw [hasM, h1, Bool.eq_iff_iff, List.any_eq_true, decide_eq_true_eq]
  exact ⟨fun ⟨x, hx, h⟩ => by rw [decide_eq_true_eq] at h; rw [← h]; exact hx, fun h => ⟨e, h, by simp⟩⟩

/- Degrees. -/

/-- How often a pair touches a vertex. -/
def inc (v : Nat) (e : Int × Int) : Int := (if e.1 = v then 1 else 0) + (if e.2 = v then 1 else 0)

def deg (es : List (Int × Int)) (v : Nat) : Int := S es (inc v)

theorem bump_get {o : List Int} {i v : Nat} (hv : v < o.length) : (bump o i).getD v 0 = o.getD v 0 + (if i = v then 1 else 0) := by
  rw [bump, List.getD_eq_getElem?_getD, List.getElem?_set]
  by_cases h : i = v
  · subst h; simp [hv, List.getD_eq_getElem?_getD]
  · simp [h, List.getD_eq_getElem?_getD]

theorem dfold_get {n : Nat} : ∀ (es : List (Int × Int)) (o : List Int), (∀ e ∈ es, 0 ≤ e.1 ∧ 0 ≤ e.2) → ∀ v, v < o.length → (dfold o es).getD v 0 = o.getD v 0 + deg es v
  | [], o, _, v, _ => by simp [dfold, deg]
  | e :: es, o, h, v, hv => by
    have h1 := h e (by simp)
    have := dfold_get (n := n) es (bump (bump o e.1.toNat) e.2.toNat) (fun x hx => h x (by simp [hx])) v (by simp [bump_len]; exact hv)
    rw [show dfold o (e :: es) = dfold (bump (bump o e.1.toNat) e.2.toNat) es from rfl, this, bump_get (by rw [bump_len]; exact hv), bump_get hv, deg, deg, S_cons]
    have c1 : (e.1.toNat = v) = (e.1 = (v : Int)) := by rw [eq_iff_iff]; omega
    have c2 : (e.2.toNat = v) = (e.2 = (v : Int)) := by rw [eq_iff_iff]; omega
    simp only [inc, c1, c2]
    omega

theorem degs_eq {n : Nat} {es : List (Int × Int)} (h : EdgesIn n es) : degs n es = (List.range n).map (deg es) := by
  have hl : (degs n es).length = n := by rw [degs, dfold_len]; simp
  refine List.ext_getElem (by simp [hl]) fun v h1 h2 => ?_
  have := dfold_get (n := n) es (List.replicate n 0) (fun e he => by have := h e he; omega) v (by simp; omega)
  rw [← degs, List.getD_eq_getElem?_getD, List.getElem?_eq_getElem h1] at this
  simp only [Option.getD_some] at this
  rw [this]
  simp [List.getD_eq_getElem?_getD]
  rw [List.getElem?_eq_getElem (by simp; omega)]; simp

theorem S_inc {n : Nat} {e : Int × Int} (h : e ∈ prs n) {l : List Nat} (hl : l.Perm (List.range n)) : S l (fun v => inc v e) = 2 := by
  have h0 := mem_prs.1 h
  have key : ∀ x : Int, 0 ≤ x → x < n → S l (fun v => if x = (v : Int) then 1 else 0) = 1 := by
    intro x hx hxn
    obtain ⟨k, rfl⟩ := Int.eq_ofNat_of_zero_le hx
    have : ∀ v ∈ l, (if (k : Int) = (v : Int) then (1 : Int) else 0) = if k = v then 1 else 0 := fun v _ => by simp only [Int.ofNat_inj]
    rw [S_congr this, S_one (hl.nodup_iff.2 List.nodup_range), if_pos (hl.mem_iff.2 (List.mem_range.2 (by omega)))]
  simp only [inc]
  rw [S_add, key _ (by omega) (by omega), key _ (by omega) (by omega)]
  rfl

theorem degs_sum {n : Nat} {es : List (Int × Int)} (h : ∀ e ∈ es, e ∈ prs n) : (degs n es).sum = 2 * es.length := by
  rw [degs_eq fun e he => by have := mem_prs.1 (h e he); omega]
  show S (List.range n) (fun v => S es (fun e => inc v e)) = _
  rw [S_swap, S_congr (g := fun _ => 2) fun e he => S_inc (h e he) (.refl _), S_const]
  omega

theorem deg_prs_all : (List.range 8).all (fun n => (List.range n).all fun v => decide (deg (prs n) v = (n : Int) - 1)) = true := by decide +kernel

theorem deg_prs {n v : Nat} (hn : n ≤ 7) (hv : v < n) : deg (prs n) v = (n : Int) - 1 := by
  have := List.all_eq_true.1 (List.all_eq_true.1 deg_prs_all n (List.mem_range.2 (by omega))) v (List.mem_range.2 hv)
  exact of_decide_eq_true this

theorem deg_compl {n v : Nat} {es : List (Int × Int)} (h : vGraph n es = true) (hv : v < n) : deg (compM n es) v = (n : Int) - 1 - deg es v := by
  have hn := (vG_iff.1 h).2.2
  have h1 := S_filter (prs n) (fun e => decide (e ∈ es)) (inc v)
  rw [← vG_filter h] at h1
  have h2 : (prs n).filter (fun e => !decide (e ∈ es)) = compM n es := List.filter_congr fun e he => by rw [hasM_mem he]
  rw [h2] at h1
  have := deg_prs hn hv
  simp only [deg] at *
  omega

/-- One at a pair that joins a to b. -/
def adj (e : Int × Int) (a b : Nat) : Int := (if e.1 = a then 1 else 0) * (if e.2 = b then 1 else 0) + (if e.2 = a then 1 else 0) * (if e.1 = b then 1 else 0)

theorem adj_all : (List.range 8).all (fun n => (List.range n).all fun a => (List.range n).all fun b => decide (S (prs n) (fun e => adj e a b) = if a = b then 0 else 1)) = true := by decide +kernel

theorem adj_prs {n a b : Nat} (hn : n ≤ 7) (ha : a < n) (hb : b < n) : S (prs n) (fun e => adj e a b) = if a = b then 0 else 1 := by
  have := List.all_eq_true.1 (List.all_eq_true.1 (List.all_eq_true.1 adj_all n (List.mem_range.2 (by omega))) a (List.mem_range.2 ha)) b (List.mem_range.2 hb)
  exact of_decide_eq_true this

theorem ind01 {l : List Nat} (h : l.Nodup) (x : Int) : S l (fun v => if x = (v : Int) then 1 else 0) = 0 ∨ S l (fun v => if x = (v : Int) then 1 else 0) = 1 := by
  by_cases hx : 0 ≤ x
  · obtain ⟨k, rfl⟩ := Int.eq_ofNat_of_zero_le hx
    have : ∀ v ∈ l, (if (k : Int) = (v : Int) then (1 : Int) else 0) = if k = v then 1 else 0 := fun v _ => by simp only [Int.ofNat_inj]
    rw [S_congr this, S_one h]
    split
    · exact .inr rfl
    · exact .inl rfl
  · refine .inl ?_
    rw [S_congr (g := fun _ => 0) fun v _ => if_neg (by omega), S_zero]

theorem two_sets {n k m : Nat} {es : List (Int × Int)} (h : vGraph n es = true) {π : List Nat} (hπ : π.Perm (List.range n)) (hkm : k ≤ m) (hm : m ≤ n) :
    S (π.take k) (deg es) + S (π.take m) (deg es) ≤ (k : Int) * ((m : Int) - 1) + S π (deg es) := by
  have hn := (vG_iff.1 h).2.2
  have hin := (vG_iff.1 h).2.1
  have hnd : π.Nodup := hπ.nodup_iff.2 List.nodup_range
  have hπl : π.length = n := by rw [hπ.length_eq, List.length_range]
  have hlt : ∀ v ∈ π, v < n := fun v hv => List.mem_range.1 (hπ.mem_iff.1 hv)
  obtain ⟨A, hA⟩ : ∃ A, A = π.take k := ⟨_, rfl⟩
  obtain ⟨B, hB⟩ : ∃ B, B = π.take m := ⟨_, rfl⟩
  have hAB : A.Sublist B := by
    rw [hA, hB, show π.take k = (π.take m).take k by rw [List.take_take, Nat.min_eq_left hkm]]
    exact List.take_sublist _ _
  have hBn : B.Nodup := by rw [hB]; exact hnd.sublist (List.take_sublist _ _)
  have hAn : A.Nodup := hBn.sublist hAB
  have hBl : B.length = m := by rw [hB, List.length_take]; omega
  have hAl : A.length = k := by rw [hA, List.length_take]; omega
  have hBm : ∀ v ∈ B, v < n := fun v hv => hlt v (by rw [hB] at hv; exact List.mem_of_mem_take hv)
  rw [← hA, ← hB]
  have sw : ∀ l : List Nat, S l (deg es) = S es (fun e => S l (fun v => inc v e)) := fun l => S_swap l es fun v e => inc v e
  have hw : S es (fun e => S A (fun a => S B (fun b => adj e a b))) ≤ (k : Int) * ((m : Int) - 1) := by
    refine Int.le_trans (S_sublist (vG_sub h) (f := fun e => S A (fun a => S B (fun b => adj e a b))) fun e _ => S_nonneg fun a _ => S_nonneg fun b _ => ?_) ?_
    · simp only [adj]
      split <;> split <;> split <;> split <;> decide
    · rw [S_swap]
      have : ∀ a ∈ A, S (prs n) (fun e => S B (fun b => adj e a b)) = (m : Int) - 1 := fun a ha => by
        have ha' := hAB.mem ha
        rw [S_swap, S_congr (g := fun b => 1 - (if a = b then 1 else 0)) fun b hb => by
          rw [adj_prs hn (hBm a ha') (hBm b hb)]; split <;> rfl]
        rw [S_sub, S_const, S_one hBn, if_pos ha', hBl]; omega
      rw [S_congr this, S_const, hAl]
      exact Int.le_refl _
  have he : ∀ e ∈ es, S A (fun v => inc v e) + S B (fun v => inc v e) - 2 ≤ S A (fun a => S B (fun b => adj e a b)) := fun e he => by
    have hwe : S A (fun a => S B (fun b => adj e a b)) = S A (fun v => if e.1 = (v : Int) then 1 else 0) * S B (fun v => if e.2 = (v : Int) then 1 else 0) + S A (fun v => if e.2 = (v : Int) then 1 else 0) * S B (fun v => if e.1 = (v : Int) then 1 else 0) := by
      rw [← S_mulr, ← S_mulr, ← S_add]
      refine S_congr fun a _ => ?_
      rw [← S_mul, ← S_mul, ← S_add]
      rfl
    rw [hwe]
    simp only [inc]
    rw [S_add, S_add]
    have m1 : S A (fun v => if e.1 = (v : Int) then 1 else 0) ≤ S B (fun v => if e.1 = (v : Int) then 1 else 0) := S_sublist hAB fun v _ => by split <;> decide
    have m2 : S A (fun v => if e.2 = (v : Int) then 1 else 0) ≤ S B (fun v => if e.2 = (v : Int) then 1 else 0) := S_sublist hAB fun v _ => by split <;> decide
    rcases ind01 hAn e.1 with h1 | h1 <;> rcases ind01 hAn e.2 with h2 | h2 <;> rcases ind01 hBn e.1 with h3 | h3 <;> rcases ind01 hBn e.2 with h4 | h4 <;> rw [h1, h3] at m1 <;> rw [h2, h4] at m2 <;> rw [h1, h2, h3, h4] <;> omega
  have hs := S_le he
  rw [S_sub, S_add, S_const] at hs
  have h2 : S π (deg es) = es.length * 2 := by
    rw [sw, S_congr (g := fun _ => 2) fun e he => S_inc (hin e he) hπ, S_const]
  rw [sw A, sw B, h2]
  omega

theorem degs_valid {n : Nat} {es : List (Int × Int)} (h : vGraph n es = true) : valid (degs n es) = true := by
  obtain ⟨h1, h2, hn⟩ := vG_iff.1 h
  have hE : EdgesIn n es := fun e he => by have := mem_prs.1 (h2 e he); omega
  rw [degs_eq hE]
  simp only [valid, Bool.and_eq_true, decide_eq_true_eq, List.all_eq_true, List.length_map, List.length_range]
  refine ⟨hn, fun x hx => ?_⟩
  obtain ⟨v, hv, rfl⟩ := List.mem_map.1 hx
  have hv := List.mem_range.1 hv
  have hi : ∀ e : Int × Int, 0 ≤ inc v e := fun e => by simp only [inc]; split <;> split <;> decide
  have h3 : deg es v ≤ deg (prs n) v := S_sublist (vG_sub h) fun e _ => hi e
  have h4 : 0 ≤ deg es v := S_nonneg fun e _ => hi e
  have := deg_prs hn hv
  omega

theorem degs_graphic {n : Nat} {es : List (Int × Int)} (h : vGraph n es = true) : graphic (degs n es) = true := by
  obtain ⟨h1, h2, hn⟩ := vG_iff.1 h
  have hE : EdgesIn n es := fun e he => by have := mem_prs.1 (h2 e he); omega
  have hs := degs_sum h2
  have hde := degs_eq hE
  obtain ⟨π, hπ, hfp⟩ := perm_map_inv (f := deg es) (fall_perm (degs n es)) (l := List.range n) hde
  refine (graphic_iff _).2 ⟨degs_valid h, by omega, fun k m hk hkm hm => ?_⟩
  rw [show (degs n es).length = n by rw [hde]; simp] at hm
  have := two_sets h hπ hkm hm
  have hsum : (degs n es).sum = S π (deg es) := by rw [hde]; exact S_perm hπ.symm _
  simp only [tops, hfp, hsum]
  rw [← List.map_take, ← List.map_take]
  exact this

theorem degs_compM {n : Nat} {es : List (Int × Int)} (h : vGraph n es = true) : degs n (compM n es) = comp (degs n es) := by
  obtain ⟨h1, h2, hn⟩ := vG_iff.1 h
  have hE : EdgesIn n es := fun e he => by have := mem_prs.1 (h2 e he); omega
  have hE2 : EdgesIn n (compM n es) := fun e he => by have := mem_prs.1 ((vG_iff.1 (compM_vG hn es)).2.1 e he); omega
  rw [comp_map, degs_eq hE2, degs_eq hE, List.map_map]
  refine List.map_congr_left fun v hv => ?_
  rw [deg_compl h (List.mem_range.1 hv)]
  simp

end Go.Idl

namespace Go.Idl

open Go

theorem ev_DrawDegreesOf (code : List Int) (c : Bool) (h : ∀ x ∈ code, 0 ≤ x ∧ x ≤ 255) (hl : code.length ≤ 10000000) :
    ∃ (n : Int) (es : List (Int × Int)), SmallG n es ∧ limF tb l_spec_DrawDegreesOf [] [.lst 1 (bytes code) c] [] = some ⟨Gr n es false, [], [], []⟩ := by
  obtain ⟨c', e⟩ := ev_newReader code c [[[I 0, Z]]] (by omega)
  have e1 := ev_lim e
  obtain ⟨n, es, k, h1, h2, e2⟩ := ev_someGraph (code.take 2000) c' (code_ok h) 0 (by omega) [[I 0, Z]] [] []
  refine ⟨n, es, h1, ev_lim ?_⟩
  rw [show ((0 : Nat) : Int) = 0 from rfl] at e2
  simp only [List.length_cons, List.length_nil, List.cons_append, List.nil_append, Nat.zero_add] at e2
  refine call_of_wp tb_spec_DrawDegreesOf rfl ?_
  repeat (first | refine wp_as ?_ | refine wp_ss ?_ | refine wp_rs (by simp [e1, e2]; with_reducible rfl) (by simp; with_reducible rfl) ?_ | refine wp_reg (by simp [e1, e2]; with_reducible rfl) (by simp; with_reducible rfl) ?_ | (refine wp_ct (t := true) ?_ (fun _ => ?_) (fun hh => nomatch hh); focus (simp [e1, e2]; done)) | (refine wp_ct (t := false) ?_ (fun hh => nomatch hh) (fun _ => ?_); focus (simp [e1, e2]; done)) | (refine wp_c (t := true) ?_ (fun _ => ?_) (fun hh => nomatch hh); focus (simp [e1, e2]; done)) | (refine wp_c (t := false) ?_ (fun hh => nomatch hh) (fun _ => ?_); focus (simp [e1, e2]; done)) | refine wp_bs ?_ | refine wp_b ?_ | refine wp_sr ?_ | refine wp_sx ?_ | refine wp_ret' ?_ | refine wp_skip' ?_ | refine wp_exit' ?_)
  simp [if_spec_DrawDegreesOf]

/-- What the law says of graphs. -/
structure DegLaw (n : Nat) (es : List (Int × Int)) : Prop where
  tot : (degs n es).sum = 2 * es.length
  gra : graphic (degs n es) = true
  com : degs n (compM n es) = comp (degs n es)

theorem degLaw (n : Nat) (es : List (Int × Int)) (h : vGraph n es = true) : DegLaw n es :=
  ⟨degs_sum (vG_iff.1 h).2.1, degs_graphic h, degs_compM h⟩

theorem degs_len (n : Nat) (es : List (Int × Int)) : (degs n es).length = n := by rw [degs, dfold_len]; simp

theorem ev_FnDegreesOf (law : ∀ (n : Nat) es, vGraph n es = true → DegLaw n es) (code : List Int) (c : Bool) (h : ∀ x ∈ code, 0 ≤ x ∧ x ≤ 255) :
    Ev tb l_laws_FnDegreesOf [] [.lst 1 (bytes code) c] [] ⟨Bo true, [], [], []⟩ := by
  by_cases hc : (1048576 : Int) < code.length
  · refine call_of_wp tb_laws_FnDegreesOf rfl ?_
    repeat (first | refine wp_as ?_ | refine wp_ss ?_ | refine wp_rs (by simp [hc]; with_reducible rfl) (by simp; with_reducible rfl) ?_ | refine wp_reg (by simp [hc]; with_reducible rfl) (by simp; with_reducible rfl) ?_ | (refine wp_ct (t := true) ?_ (fun _ => ?_) (fun hh => nomatch hh); focus (simp [hc]; done)) | (refine wp_ct (t := false) ?_ (fun hh => nomatch hh) (fun _ => ?_); focus (simp [hc]; done)) | (refine wp_c (t := true) ?_ (fun _ => ?_) (fun hh => nomatch hh); focus (simp [hc]; done)) | (refine wp_c (t := false) ?_ (fun hh => nomatch hh) (fun _ => ?_); focus (simp [hc]; done)) | refine wp_bs ?_ | refine wp_b ?_ | refine wp_sr ?_ | refine wp_sx ?_ | refine wp_ret' ?_ | refine wp_skip' ?_ | refine wp_exit' ?_)
    simp [if_laws_FnDegreesOf]
  obtain ⟨n, es, hS, e1⟩ := ev_DrawDegreesOf code c h (by omega)
  have hlen := hS.len
  have v1 := ev_lim (ev_ValidGraph n es false hS.fit (by omega))
  cases hv : vGraph n es with
  | false =>
    have e2 := ev_lim (ev_impl_DegreesOf_no n es false hS.fit (by omega) hv)
    have e3 := ev_lim (ev_spec_DegreesOf_no n es false hS.fit (by omega) hv)
    have e4 := ev_lim ev_equalInts_Z
    refine call_of_wp tb_laws_FnDegreesOf rfl ?_
    repeat (first | refine wp_as ?_ | refine wp_ss ?_ | refine wp_rs (by simp [hc, e1, e2, e3, e4, v1, hv]; with_reducible rfl) (by simp; with_reducible rfl) ?_ | refine wp_reg (by simp [hc, e1, e2, e3, e4, v1, hv]; with_reducible rfl) (by simp; with_reducible rfl) ?_ | (refine wp_ct (t := true) ?_ (fun _ => ?_) (fun hh => nomatch hh); focus (simp [hc, e1, e2, e3, e4, v1, hv]; done)) | (refine wp_ct (t := false) ?_ (fun hh => nomatch hh) (fun _ => ?_); focus (simp [hc, e1, e2, e3, e4, v1, hv]; done)) | (refine wp_c (t := true) ?_ (fun _ => ?_) (fun hh => nomatch hh); focus (simp [hc, e1, e2, e3, e4, v1, hv]; done)) | (refine wp_c (t := false) ?_ (fun hh => nomatch hh) (fun _ => ?_); focus (simp [hc, e1, e2, e3, e4, v1, hv]; done)) | refine wp_bs ?_ | refine wp_b ?_ | refine wp_sr ?_ | refine wp_sx ?_ | refine wp_ret' ?_ | refine wp_skip' ?_ | refine wp_exit' ?_)
    simp [if_laws_FnDegreesOf]
  | true =>
  have hn := vG_n hv
  obtain ⟨n, rfl⟩ := Int.eq_ofNat_of_zero_le hn.1
  have hl := law n es hv
  have hdl := degs_len n es
  have hgr := hl.gra
  have hvd : valid (degs n es) = true := by simp only [graphic, Bool.and_eq_true] at hgr; exact hgr.1.1
  have hcm := hl.com
  have htt := hl.tot
  have e2 := ev_lim (ev_impl_DegreesOf n es false hS.fit (by omega) hv)
  have e3 := ev_lim (ev_spec_DegreesOf n es false hS.fit (by omega) hv)
  have e4 := ev_lim (ev_equalInts (degs n es) (degs n es) false false (by omega) (by omega))
  have e5 := ev_lim (ev_total (degs n es) false (valid_few hvd).small)
  have e6 := ev_lim (ev_IsGraphic (degs n es) false (by omega))
  have e7 := ev_lim (ev_ComplementGraph n es false hS.fit (by omega) hv)
  have e9 := ev_lim (ev_Complement (degs n es) false hvd)
  have hcl : (comp (degs n es)).length = n := by rw [← hcm, degs_len]
  have e10 := ev_lim (ev_equalInts (comp (degs n es)) (comp (degs n es)) false false (by omega) (by omega))
  have w1 : IntKind.i64.wrap (2 * (es.length : Int)) = 2 * es.length := wrap64 (by omega) (by omega)
  have hcf : Fit (compM n es) := fun e he => by
    have := prs_in (n := n) (es := compM n es) List.filter_sublist e he; omega
  have hcl2 : (compM n es).length ≤ 49 := prs_len (by omega) List.filter_sublist
  have e8 : ∀ q, q = nl2 (compM n es) → limF tb l_impl_DegreesOf [] [.agg [I n, match q with | .own e x => .lst e (frzLL x) false | x => x]] [] = some ⟨O (comp (degs n es)), [], [], []⟩ := by
    rintro q rfl
    rw [← hcm]
    cases hq : compM n es with
    | nil => exact ev_lim (ev_DegreesOf_Z n (by omega))
    | cons e r =>
      rw [← hq]
      have hvc : vGraph n (compM n es) = true := compM_vG (by omega) es
      rw [hq]
      simp only [nl2_cons, frz_eds]
      rw [← hq]
      exact ev_lim (ev_impl_DegreesOf n (compM n es) false hcf (by omega) hvc)
  have e8 := e8 _ rfl
  generalize compM n es = Q at *
  generalize degs n es = D at *
  cases Q with
  | nil =>
    rw [nl2_nil] at *
    simp only at e8
    refine call_of_wp tb_laws_FnDegreesOf rfl ?_
    repeat (first | refine wp_as ?_ | refine wp_ss ?_ | refine wp_rs (by simp [hc, e1, e2, e3, e4, v1, hv]; with_reducible rfl) (by simp; with_reducible rfl) ?_ | refine wp_reg (by simp [hc, e1, e2, e3, e4, v1, hv]; with_reducible rfl) (by simp; with_reducible rfl) ?_ | (refine wp_ct (t := true) ?_ (fun _ => ?_) (fun hh => nomatch hh); focus (simp [hc, e1, e2, e3, e4, v1, hv]; done)) | (refine wp_ct (t := false) ?_ (fun hh => nomatch hh) (fun _ => ?_); focus (simp [hc, e1, e2, e3, e4, v1, hv]; done)) | (refine wp_c (t := true) ?_ (fun _ => ?_) (fun hh => nomatch hh); focus (simp [hc, e1, e2, e3, e4, v1, hv]; done)) | (refine wp_c (t := false) ?_ (fun hh => nomatch hh) (fun _ => ?_); focus (simp [hc, e1, e2, e3, e4, v1, hv]; done)) | refine wp_bs ?_ | refine wp_b ?_ | refine wp_sr ?_ | refine wp_sx ?_ | refine wp_ret' ?_ | refine wp_skip' ?_ | refine wp_exit' ?_)
    refine wp_rega (by simp [e5, e6, e7, e8, e9, e10, w1, htt, hgr]; with_reducible rfl) (by simp; with_reducible rfl) ?_ ?_
    · intro p hp
      simp only [List.mem_cons, List.not_mem_nil, or_false] at hp
      subst hp
      exact ⟨_, by simp [e5, e6, e7, e8, e9, e10, w1, htt, hgr]; with_reducible rfl, by simp⟩
    repeat (first | refine wp_as ?_ | refine wp_ss ?_ | refine wp_rs (by simp; with_reducible rfl) (by simp; with_reducible rfl) ?_ | refine wp_reg (by simp; with_reducible rfl) (by simp; with_reducible rfl) ?_ | (refine wp_ct (t := true) ?_ (fun _ => ?_) (fun hh => nomatch hh); focus (simp; done)) | (refine wp_ct (t := false) ?_ (fun hh => nomatch hh) (fun _ => ?_); focus (simp; done)) | (refine wp_c (t := true) ?_ (fun _ => ?_) (fun hh => nomatch hh); focus (simp; done)) | (refine wp_c (t := false) ?_ (fun hh => nomatch hh) (fun _ => ?_); focus (simp; done)) | refine wp_bs ?_ | refine wp_b ?_ | refine wp_sr ?_ | refine wp_sx ?_ | refine wp_ret' ?_ | refine wp_skip' ?_ | refine wp_exit' ?_)
    simp [if_laws_FnDegreesOf]
  | cons q Q =>
    rw [nl2_cons] at *
    simp only [frz_eds] at e8
    refine call_of_wp tb_laws_FnDegreesOf rfl ?_
    repeat (first | refine wp_as ?_ | refine wp_ss ?_ | refine wp_rs (by simp [hc, e1, e2, e3, e4, v1, hv]; with_reducible rfl) (by simp; with_reducible rfl) ?_ | refine wp_reg (by simp [hc, e1, e2, e3, e4, v1, hv]; with_reducible rfl) (by simp; with_reducible rfl) ?_ | (refine wp_ct (t := true) ?_ (fun _ => ?_) (fun hh => nomatch hh); focus (simp [hc, e1, e2, e3, e4, v1, hv]; done)) | (refine wp_ct (t := false) ?_ (fun hh => nomatch hh) (fun _ => ?_); focus (simp [hc, e1, e2, e3, e4, v1, hv]; done)) | (refine wp_c (t := true) ?_ (fun _ => ?_) (fun hh => nomatch hh); focus (simp [hc, e1, e2, e3, e4, v1, hv]; done)) | (refine wp_c (t := false) ?_ (fun hh => nomatch hh) (fun _ => ?_); focus (simp [hc, e1, e2, e3, e4, v1, hv]; done)) | refine wp_bs ?_ | refine wp_b ?_ | refine wp_sr ?_ | refine wp_sx ?_ | refine wp_ret' ?_ | refine wp_skip' ?_ | refine wp_exit' ?_)
    refine wp_rega (by simp [e5, e6, e7, e8, e9, e10, w1, htt, hgr]; with_reducible rfl) (by simp; with_reducible rfl) ?_ ?_
    · intro p hp
      simp only [List.mem_cons, List.not_mem_nil, or_false] at hp
      subst hp
      exact ⟨_, by simp [e5, e6, e7, e8, e9, e10, w1, htt, hgr]; with_reducible rfl, by simp⟩
    repeat (first | refine wp_as ?_ | refine wp_ss ?_ | refine wp_rs (by simp; with_reducible rfl) (by simp; with_reducible rfl) ?_ | refine wp_reg (by simp; with_reducible rfl) (by simp; with_reducible rfl) ?_ | (refine wp_ct (t := true) ?_ (fun _ => ?_) (fun hh => nomatch hh); focus (simp; done)) | (refine wp_ct (t := false) ?_ (fun hh => nomatch hh) (fun _ => ?_); focus (simp; done)) | (refine wp_c (t := true) ?_ (fun _ => ?_) (fun hh => nomatch hh); focus (simp; done)) | (refine wp_c (t := false) ?_ (fun hh => nomatch hh) (fun _ => ?_); focus (simp; done)) | refine wp_bs ?_ | refine wp_b ?_ | refine wp_sr ?_ | refine wp_sx ?_ | refine wp_ret' ?_ | refine wp_skip' ?_ | refine wp_exit' ?_)
    simp [if_laws_FnDegreesOf]

end Go.Idl

