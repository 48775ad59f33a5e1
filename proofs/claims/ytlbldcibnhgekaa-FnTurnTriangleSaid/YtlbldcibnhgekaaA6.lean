/- Part 6 of a proof by an ideal interpreter of the code: its definitions and lemmas. Conditions: none. -/
import Derived.KernelRfl
import Derived.Test.YtlbldcibnhgekaaA5
set_option linter.all false
set_option linter.unusedVariables false
set_option linter.unusedSimpArgs false
namespace Go.Idl

open Go

def TriI (t : List (List Int)) (a b c : Int) : Prop := ∃ x y z : Nat, a = x ∧ b = y ∧ c = z ∧ Tri t x y z

/-- Why there is no triangle. -/
theorem no_tri {t : List (List Int)} {a b c : Int} (h : ¬ TriI t a b c) :
    ¬ Tour t ∨ (Tour t ∧ ¬ (0 ≤ a ∧ a ≤ (t.length : Int) - 1)) ∨ (Tour t ∧ (0 ≤ a ∧ a ≤ (t.length : Int) - 1) ∧ ¬ (0 ≤ b ∧ b ≤ (t.length : Int) - 1)) ∨
    (Tour t ∧ (0 ≤ a ∧ a ≤ (t.length : Int) - 1) ∧ (0 ≤ b ∧ b ≤ (t.length : Int) - 1) ∧ ¬ (0 ≤ c ∧ c ≤ (t.length : Int) - 1)) ∨
    (Tour t ∧ ∃ x y z : Nat, a = x ∧ b = y ∧ c = z ∧ x < t.length ∧ y < t.length ∧ z < t.length ∧
      (g2 t x y ≠ 1 ∨ (g2 t x y = 1 ∧ g2 t y z ≠ 1) ∨ (g2 t x y = 1 ∧ g2 t y z = 1 ∧ g2 t z x ≠ 1))) := by
  by_cases ht : Tour t
  rotate_left
  · exact .inl ht
  by_cases ha : 0 ≤ a ∧ a ≤ (t.length : Int) - 1
  rotate_left
  · exact .inr (.inl ⟨ht, ha⟩)
  by_cases hb : 0 ≤ b ∧ b ≤ (t.length : Int) - 1
  rotate_left
  · exact .inr (.inr (.inl ⟨ht, ha, hb⟩))
  by_cases hc : 0 ≤ c ∧ c ≤ (t.length : Int) - 1
  rotate_left
  · exact .inr (.inr (.inr (.inl ⟨ht, ha, hb, hc⟩)))
  obtain ⟨x, rfl⟩ := Int.eq_ofNat_of_zero_le ha.1
  obtain ⟨y, rfl⟩ := Int.eq_ofNat_of_zero_le hb.1
  obtain ⟨z, rfl⟩ := Int.eq_ofNat_of_zero_le hc.1
  refine .inr (.inr (.inr (.inr ⟨ht, x, y, z, rfl, rfl, rfl, by omega, by omega, by omega, ?_⟩)))
  by_cases h1 : g2 t x y = 1
  · by_cases h2 : g2 t y z = 1
    · exact .inr (.inr ⟨h1, h2, fun h3 => h ⟨x, y, z, rfl, rfl, rfl, ht, by omega, by omega, by omega, h1, h2, h3⟩⟩)
    · exact .inr (.inl ⟨h1, h2⟩)
  · exact .inl h1

theorem ev_impl_TurnTriangle_no (t : List (List Int)) (cl : Bool) (a b c : Int) (hs : Small2 t) (h : ¬ TriI t a b c) :
    Ev tb l_impl_TurnTriangle [] [TL t cl, I a, I b, I c] [] ⟨.tup [Z, Bo false], [], [], []⟩ := by
  have hl := hs.1
  have e1 := ev_lim (ev_ValidTournament t cl (by omega) (fun r hr => by have := (hs.2 r hr).1; omega))
  have e2 := ev_lim (ev_allIn [a, b, c] false 0 ((t.length : Int) - 1) (by simp))
  have w1 : IntKind.i64.wrap ((t.length : Int) - 1) = (t.length : Int) - 1 := wrap64 (by omega) (by omega)
  have out : Tour t → ¬ ((0 ≤ a ∧ a ≤ (t.length : Int) - 1) ∧ (0 ≤ b ∧ b ≤ (t.length : Int) - 1) ∧ (0 ≤ c ∧ c ≤ (t.length : Int) - 1)) →
      Ev tb l_impl_TurnTriangle [] [TL t cl, I a, I b, I c] [] ⟨.tup [Z, Bo false], [], [], []⟩ := by
    intro ht hn
    rw [vT_true.2 ht] at e1
    rw [show ([a, b, c].all fun x => decide (0 ≤ x) && decide (x ≤ (t.length : Int) - 1)) = false by
      rw [← Bool.not_eq_true]
      intro h
      simp at h
      exact hn (by omega)] at e2
    refine call_of_wp tb_impl_TurnTriangle rfl ?_
    repeat (first | refine wp_as ?_ | refine wp_ss ?_ | refine wp_rs (by simp [e1, e2, w1]; with_reducible rfl) (by simp; with_reducible rfl) ?_ | refine wp_reg (by simp [e1, e2, w1]; with_reducible rfl) (by simp; with_reducible rfl) ?_ | (refine wp_ct (t := true) ?_ (fun _ => ?_) (fun hh => nomatch hh); focus (simp [e1, e2, w1]; done)) | (refine wp_ct (t := false) ?_ (fun hh => nomatch hh) (fun _ => ?_); focus (simp [e1, e2, w1]; done)) | (refine wp_c (t := true) ?_ (fun _ => ?_) (fun hh => nomatch hh); focus (simp [e1, e2, w1]; done)) | (refine wp_c (t := false) ?_ (fun hh => nomatch hh) (fun _ => ?_); focus (simp [e1, e2, w1]; done)) | refine wp_bs ?_ | refine wp_b ?_ | refine wp_sr ?_ | refine wp_sx ?_ | refine wp_ret' ?_ | refine wp_skip' ?_ | refine wp_exit' ?_)
    simp [if_impl_TurnTriangle]
  rcases no_tri h with ht | ⟨ht, h1⟩ | ⟨ht, h1, h2⟩ | ⟨ht, h1, h2, h3⟩ | ⟨ht, x, y, z, rfl, rfl, rfl, la, lb, lc, h4⟩
  · rw [vT_false.2 ht] at e1
    refine call_of_wp tb_impl_TurnTriangle rfl ?_
    repeat (first | refine wp_as ?_ | refine wp_ss ?_ | refine wp_rs (by simp [e1]; with_reducible rfl) (by simp; with_reducible rfl) ?_ | refine wp_reg (by simp [e1]; with_reducible rfl) (by simp; with_reducible rfl) ?_ | (refine wp_ct (t := true) ?_ (fun _ => ?_) (fun hh => nomatch hh); focus (simp [e1]; done)) | (refine wp_ct (t := false) ?_ (fun hh => nomatch hh) (fun _ => ?_); focus (simp [e1]; done)) | (refine wp_c (t := true) ?_ (fun _ => ?_) (fun hh => nomatch hh); focus (simp [e1]; done)) | (refine wp_c (t := false) ?_ (fun hh => nomatch hh) (fun _ => ?_); focus (simp [e1]; done)) | refine wp_bs ?_ | refine wp_b ?_ | refine wp_sr ?_ | refine wp_sx ?_ | refine wp_ret' ?_ | refine wp_skip' ?_ | refine wp_exit' ?_)
    simp [if_impl_TurnTriangle]
  · exact out ht (fun h => h1 h.1)
  · exact out ht (fun h => h2 h.2.1)
  · exact out ht (fun h => h3 h.2.2)
  rw [vT_true.2 ht] at e1
  rw [show ([(x : Int), (y : Int), (z : Int)].all fun x => decide (0 ≤ x) && decide (x ≤ (t.length : Int) - 1)) = true by simp; omega] at e2
  have ra := (ht.2.1 _ (List.getElem_mem la)).1
  have rb := (ht.2.1 _ (List.getElem_mem lb)).1
  have rc := (ht.2.1 _ (List.getElem_mem lc)).1
  have lab : y < t[x].length := by omega
  have lbc : z < t[y].length := by omega
  have lca : x < t[z].length := by omega
  rw [g2_eq la lab, g2_eq lb lbc, g2_eq lc lca] at h4
  rcases h4 with x1 | ⟨x1, x2⟩ | ⟨x1, x2, x3⟩
  · refine call_of_wp tb_impl_TurnTriangle rfl ?_
    repeat (first | refine wp_as ?_ | refine wp_ss ?_ | refine wp_rs (by simp [e1, e2, w1, la, lb, lc, lab, lbc, lca, x1]; with_reducible rfl) (by simp; with_reducible rfl) ?_ | refine wp_reg (by simp [e1, e2, w1, la, lb, lc, lab, lbc, lca, x1]; with_reducible rfl) (by simp; with_reducible rfl) ?_ | (refine wp_ct (t := true) ?_ (fun _ => ?_) (fun hh => nomatch hh); focus (simp [e1, e2, w1, la, lb, lc, lab, lbc, lca, x1]; done)) | (refine wp_ct (t := false) ?_ (fun hh => nomatch hh) (fun _ => ?_); focus (simp [e1, e2, w1, la, lb, lc, lab, lbc, lca, x1]; done)) | (refine wp_c (t := true) ?_ (fun _ => ?_) (fun hh => nomatch hh); focus (simp [e1, e2, w1, la, lb, lc, lab, lbc, lca, x1]; done)) | (refine wp_c (t := false) ?_ (fun hh => nomatch hh) (fun _ => ?_); focus (simp [e1, e2, w1, la, lb, lc, lab, lbc, lca, x1]; done)) | refine wp_bs ?_ | refine wp_b ?_ | refine wp_sr ?_ | refine wp_sx ?_ | refine wp_ret' ?_ | refine wp_skip' ?_ | refine wp_exit' ?_)
    simp [if_impl_TurnTriangle]
  · refine call_of_wp tb_impl_TurnTriangle rfl ?_
    repeat (first | refine wp_as ?_ | refine wp_ss ?_ | refine wp_rs (by simp [e1, e2, w1, la, lb, lc, lab, lbc, lca, x1, x2]; with_reducible rfl) (by simp; with_reducible rfl) ?_ | refine wp_reg (by simp [e1, e2, w1, la, lb, lc, lab, lbc, lca, x1, x2]; with_reducible rfl) (by simp; with_reducible rfl) ?_ | (refine wp_ct (t := true) ?_ (fun _ => ?_) (fun hh => nomatch hh); focus (simp [e1, e2, w1, la, lb, lc, lab, lbc, lca, x1, x2]; done)) | (refine wp_ct (t := false) ?_ (fun hh => nomatch hh) (fun _ => ?_); focus (simp [e1, e2, w1, la, lb, lc, lab, lbc, lca, x1, x2]; done)) | (refine wp_c (t := true) ?_ (fun _ => ?_) (fun hh => nomatch hh); focus (simp [e1, e2, w1, la, lb, lc, lab, lbc, lca, x1, x2]; done)) | (refine wp_c (t := false) ?_ (fun hh => nomatch hh) (fun _ => ?_); focus (simp [e1, e2, w1, la, lb, lc, lab, lbc, lca, x1, x2]; done)) | refine wp_bs ?_ | refine wp_b ?_ | refine wp_sr ?_ | refine wp_sx ?_ | refine wp_ret' ?_ | refine wp_skip' ?_ | refine wp_exit' ?_)
    simp [if_impl_TurnTriangle]
  · refine call_of_wp tb_impl_TurnTriangle rfl ?_
    repeat (first | refine wp_as ?_ | refine wp_ss ?_ | refine wp_rs (by simp [e1, e2, w1, la, lb, lc, lab, lbc, lca, x1, x2, x3]; with_reducible rfl) (by simp; with_reducible rfl) ?_ | refine wp_reg (by simp [e1, e2, w1, la, lb, lc, lab, lbc, lca, x1, x2, x3]; with_reducible rfl) (by simp; with_reducible rfl) ?_ | (refine wp_ct (t := true) ?_ (fun _ => ?_) (fun hh => nomatch hh); focus (simp [e1, e2, w1, la, lb, lc, lab, lbc, lca, x1, x2, x3]; done)) | (refine wp_ct (t := false) ?_ (fun hh => nomatch hh) (fun _ => ?_); focus (simp [e1, e2, w1, la, lb, lc, lab, lbc, lca, x1, x2, x3]; done)) | (refine wp_c (t := true) ?_ (fun _ => ?_) (fun hh => nomatch hh); focus (simp [e1, e2, w1, la, lb, lc, lab, lbc, lca, x1, x2, x3]; done)) | (refine wp_c (t := false) ?_ (fun hh => nomatch hh) (fun _ => ?_); focus (simp [e1, e2, w1, la, lb, lc, lab, lbc, lca, x1, x2, x3]; done)) | refine wp_bs ?_ | refine wp_b ?_ | refine wp_sr ?_ | refine wp_sx ?_ | refine wp_ret' ?_ | refine wp_skip' ?_ | refine wp_exit' ?_)
    simp [if_impl_TurnTriangle]

theorem ev_spec_TurnTriangle_no (t : List (List Int)) (cl : Bool) (a b c : Int) (hs : Small2 t) (h : ¬ TriI t a b c) :
    Ev tb l_spec_TurnTriangle [] [TL t cl, I a, I b, I c] [] ⟨.tup [Z, Bo false], [], [], []⟩ := by
  have hl := hs.1
  have e1 := ev_lim (ev_validTournament t cl hs)
  have ea := ev_lim (ev_inRange a 0 ((t.length : Int) - 1))
  have eb := ev_lim (ev_inRange b 0 ((t.length : Int) - 1))
  have ec := ev_lim (ev_inRange c 0 ((t.length : Int) - 1))
  have w1 : IntKind.i64.wrap ((t.length : Int) - 1) = (t.length : Int) - 1 := wrap64 (by omega) (by omega)
  have yes : ∀ x : Int, (0 ≤ x ∧ x ≤ (t.length : Int) - 1) → (decide (0 ≤ x) && decide (x ≤ (t.length : Int) - 1)) = true := fun x h => by simp; omega
  have no : ∀ x : Int, ¬ (0 ≤ x ∧ x ≤ (t.length : Int) - 1) → (decide (0 ≤ x) && decide (x ≤ (t.length : Int) - 1)) = false := fun x h => by
    rw [← Bool.not_eq_true, Bool.and_eq_true, decide_eq_true_eq, decide_eq_true_eq]; exact h
  rcases no_tri h with ht | ⟨ht, h1⟩ | ⟨ht, h1, h2⟩ | ⟨ht, h1, h2, h3⟩ | ⟨ht, x, y, z, rfl, rfl, rfl, la, lb, lc, h4⟩
  · rw [vT_false.2 ht] at e1
    refine call_of_wp tb_spec_TurnTriangle rfl ?_
    repeat (first | refine wp_as ?_ | refine wp_ss ?_ | refine wp_rs (by simp [e1, w1]; with_reducible rfl) (by simp; with_reducible rfl) ?_ | refine wp_reg (by simp [e1, w1]; with_reducible rfl) (by simp; with_reducible rfl) ?_ | (refine wp_ct (t := true) ?_ (fun _ => ?_) (fun hh => nomatch hh); focus (simp [e1, w1]; done)) | (refine wp_ct (t := false) ?_ (fun hh => nomatch hh) (fun _ => ?_); focus (simp [e1, w1]; done)) | (refine wp_c (t := true) ?_ (fun _ => ?_) (fun hh => nomatch hh); focus (simp [e1, w1]; done)) | (refine wp_c (t := false) ?_ (fun hh => nomatch hh) (fun _ => ?_); focus (simp [e1, w1]; done)) | refine wp_bs ?_ | refine wp_b ?_ | refine wp_sr ?_ | refine wp_sx ?_ | refine wp_ret' ?_ | refine wp_skip' ?_ | refine wp_exit' ?_)
    simp [if_spec_TurnTriangle]
  · rw [vT_true.2 ht] at e1
    rw [no a h1] at ea
    refine call_of_wp tb_spec_TurnTriangle rfl ?_
    repeat (first | refine wp_as ?_ | refine wp_ss ?_ | refine wp_rs (by simp [e1, w1, ea]; with_reducible rfl) (by simp; with_reducible rfl) ?_ | refine wp_reg (by simp [e1, w1, ea]; with_reducible rfl) (by simp; with_reducible rfl) ?_ | (refine wp_ct (t := true) ?_ (fun _ => ?_) (fun hh => nomatch hh); focus (simp [e1, w1, ea]; done)) | (refine wp_ct (t := false) ?_ (fun hh => nomatch hh) (fun _ => ?_); focus (simp [e1, w1, ea]; done)) | (refine wp_c (t := true) ?_ (fun _ => ?_) (fun hh => nomatch hh); focus (simp [e1, w1, ea]; done)) | (refine wp_c (t := false) ?_ (fun hh => nomatch hh) (fun _ => ?_); focus (simp [e1, w1, ea]; done)) | refine wp_bs ?_ | refine wp_b ?_ | refine wp_sr ?_ | refine wp_sx ?_ | refine wp_ret' ?_ | refine wp_skip' ?_ | refine wp_exit' ?_)
    simp [if_spec_TurnTriangle]
  · rw [vT_true.2 ht] at e1
    rw [yes a h1] at ea
    rw [no b h2] at eb
    refine call_of_wp tb_spec_TurnTriangle rfl ?_
    repeat (first | refine wp_as ?_ | refine wp_ss ?_ | refine wp_rs (by simp [e1, w1, ea, eb]; with_reducible rfl) (by simp; with_reducible rfl) ?_ | refine wp_reg (by simp [e1, w1, ea, eb]; with_reducible rfl) (by simp; with_reducible rfl) ?_ | (refine wp_ct (t := true) ?_ (fun _ => ?_) (fun hh => nomatch hh); focus (simp [e1, w1, ea, eb]; done)) | (refine wp_ct (t := false) ?_ (fun hh => nomatch hh) (fun _ => ?_); focus (simp [e1, w1, ea, eb]; done)) | (refine wp_c (t := true) ?_ (fun _ => ?_) (fun hh => nomatch hh); focus (simp [e1, w1, ea, eb]; done)) | (refine wp_c (t := false) ?_ (fun hh => nomatch hh) (fun _ => ?_); focus (simp [e1, w1, ea, eb]; done)) | refine wp_bs ?_ | refine wp_b ?_ | refine wp_sr ?_ | refine wp_sx ?_ | refine wp_ret' ?_ | refine wp_skip' ?_ | refine wp_exit' ?_)
    simp [if_spec_TurnTriangle]
  · rw [vT_true.2 ht] at e1
    rw [yes a h1] at ea
    rw [yes b h2] at eb
    rw [no c h3] at ec
    refine call_of_wp tb_spec_TurnTriangle rfl ?_
    repeat (first | refine wp_as ?_ | refine wp_ss ?_ | refine wp_rs (by simp [e1, w1, ea, eb, ec]; with_reducible rfl) (by simp; with_reducible rfl) ?_ | refine wp_reg (by simp [e1, w1, ea, eb, ec]; with_reducible rfl) (by simp; with_reducible rfl) ?_ | (refine wp_ct (t := true) ?_ (fun _ => ?_) (fun hh => nomatch hh); focus (simp [e1, w1, ea, eb, ec]; done)) | (refine wp_ct (t := false) ?_ (fun hh => nomatch hh) (fun _ => ?_); focus (simp [e1, w1, ea, eb, ec]; done)) | (refine wp_c (t := true) ?_ (fun _ => ?_) (fun hh => nomatch hh); focus (simp [e1, w1, ea, eb, ec]; done)) | (refine wp_c (t := false) ?_ (fun hh => nomatch hh) (fun _ => ?_); focus (simp [e1, w1, ea, eb, ec]; done)) | refine wp_bs ?_ | refine wp_b ?_ | refine wp_sr ?_ | refine wp_sx ?_ | refine wp_ret' ?_ | refine wp_skip' ?_ | refine wp_exit' ?_)
    simp [if_spec_TurnTriangle]
  rw [vT_true.2 ht] at e1
  rw [yes _ (by omega)] at ea
  rw [yes _ (by omega)] at eb
  rw [yes _ (by omega)] at ec
  have ra := (ht.2.1 _ (List.getElem_mem la)).1
  have rb := (ht.2.1 _ (List.getElem_mem lb)).1
  have rc := (ht.2.1 _ (List.getElem_mem lc)).1
  have lab : y < t[x].length := by omega
  have lbc : z < t[y].length := by omega
  have lca : x < t[z].length := by omega
  rw [g2_eq la lab, g2_eq lb lbc, g2_eq lc lca] at h4
  rcases h4 with x1 | ⟨x1, x2⟩ | ⟨x1, x2, x3⟩
  · refine call_of_wp tb_spec_TurnTriangle rfl ?_
    repeat (first | refine wp_as ?_ | refine wp_ss ?_ | refine wp_rs (by simp [e1, ea, eb, ec, w1, la, lb, lc, lab, lbc, lca, x1]; with_reducible rfl) (by simp; with_reducible rfl) ?_ | refine wp_reg (by simp [e1, ea, eb, ec, w1, la, lb, lc, lab, lbc, lca, x1]; with_reducible rfl) (by simp; with_reducible rfl) ?_ | (refine wp_ct (t := true) ?_ (fun _ => ?_) (fun hh => nomatch hh); focus (simp [e1, ea, eb, ec, w1, la, lb, lc, lab, lbc, lca, x1]; done)) | (refine wp_ct (t := false) ?_ (fun hh => nomatch hh) (fun _ => ?_); focus (simp [e1, ea, eb, ec, w1, la, lb, lc, lab, lbc, lca, x1]; done)) | (refine wp_c (t := true) ?_ (fun _ => ?_) (fun hh => nomatch hh); focus (simp [e1, ea, eb, ec, w1, la, lb, lc, lab, lbc, lca, x1]; done)) | (refine wp_c (t := false) ?_ (fun hh => nomatch hh) (fun _ => ?_); focus (simp [e1, ea, eb, ec, w1, la, lb, lc, lab, lbc, lca, x1]; done)) | refine wp_bs ?_ | refine wp_b ?_ | refine wp_sr ?_ | refine wp_sx ?_ | refine wp_ret' ?_ | refine wp_skip' ?_ | refine wp_exit' ?_)
    simp [if_spec_TurnTriangle]
  · refine call_of_wp tb_spec_TurnTriangle rfl ?_
    repeat (first | refine wp_as ?_ | refine wp_ss ?_ | refine wp_rs (by simp [e1, ea, eb, ec, w1, la, lb, lc, lab, lbc, lca, x1, x2]; with_reducible rfl) (by simp; with_reducible rfl) ?_ | refine wp_reg (by simp [e1, ea, eb, ec, w1, la, lb, lc, lab, lbc, lca, x1, x2]; with_reducible rfl) (by simp; with_reducible rfl) ?_ | (refine wp_ct (t := true) ?_ (fun _ => ?_) (fun hh => nomatch hh); focus (simp [e1, ea, eb, ec, w1, la, lb, lc, lab, lbc, lca, x1, x2]; done)) | (refine wp_ct (t := false) ?_ (fun hh => nomatch hh) (fun _ => ?_); focus (simp [e1, ea, eb, ec, w1, la, lb, lc, lab, lbc, lca, x1, x2]; done)) | (refine wp_c (t := true) ?_ (fun _ => ?_) (fun hh => nomatch hh); focus (simp [e1, ea, eb, ec, w1, la, lb, lc, lab, lbc, lca, x1, x2]; done)) | (refine wp_c (t := false) ?_ (fun hh => nomatch hh) (fun _ => ?_); focus (simp [e1, ea, eb, ec, w1, la, lb, lc, lab, lbc, lca, x1, x2]; done)) | refine wp_bs ?_ | refine wp_b ?_ | refine wp_sr ?_ | refine wp_sx ?_ | refine wp_ret' ?_ | refine wp_skip' ?_ | refine wp_exit' ?_)
    simp [if_spec_TurnTriangle]
  · refine call_of_wp tb_spec_TurnTriangle rfl ?_
    repeat (first | refine wp_as ?_ | refine wp_ss ?_ | refine wp_rs (by simp [e1, ea, eb, ec, w1, la, lb, lc, lab, lbc, lca, x1, x2, x3]; with_reducible rfl) (by simp; with_reducible rfl) ?_ | refine wp_reg (by simp [e1, ea, eb, ec, w1, la, lb, lc, lab, lbc, lca, x1, x2, x3]; with_reducible rfl) (by simp; with_reducible rfl) ?_ | (refine wp_ct (t := true) ?_ (fun _ => ?_) (fun hh => nomatch hh); focus (simp [e1, ea, eb, ec, w1, la, lb, lc, lab, lbc, lca, x1, x2, x3]; done)) | (refine wp_ct (t := false) ?_ (fun hh => nomatch hh) (fun _ => ?_); focus (simp [e1, ea, eb, ec, w1, la, lb, lc, lab, lbc, lca, x1, x2, x3]; done)) | (refine wp_c (t := true) ?_ (fun _ => ?_) (fun hh => nomatch hh); focus (simp [e1, ea, eb, ec, w1, la, lb, lc, lab, lbc, lca, x1, x2, x3]; done)) | (refine wp_c (t := false) ?_ (fun hh => nomatch hh) (fun _ => ?_); focus (simp [e1, ea, eb, ec, w1, la, lb, lc, lab, lbc, lca, x1, x2, x3]; done)) | refine wp_bs ?_ | refine wp_b ?_ | refine wp_sr ?_ | refine wp_sx ?_ | refine wp_ret' ?_ | refine wp_skip' ?_ | refine wp_exit' ?_)
    simp [if_spec_TurnTriangle]

end Go.Idl

namespace Go.Idl

open Go

theorem dt_loop (code : List Int) (c : Bool) (hc : CodeOk code) (t : List (List Int)) (ht : Tour t) : ∀ (m i k : Nat), i + m = 10 → k + 3 * m ≤ 50000 →
    wp tb (.loop ic_spec_DrawTurnTriangle_l12) { T := [(6, .bptr 0 0 0), (7, OT t), (8, I i)], loc := [R code c k], M := [] }
      (fun ex st => (ex = .exit 0 ∧ ∃ k' : Nat, k' ≤ k + 3 * m ∧ st = { T := [(6, .bptr 0 0 0), (7, OT t), (8, I 10), (24, Bo false)], loc := [R code c k'], M := [] }) ∨
        ex = .ret ∧ ∃ a b d : Int, finish if_spec_DrawTurnTriangle [] st = some ⟨.tup [OT t, I a, I b, I d], [], [], []⟩) := by
  intro m
  induction m with
  | zero =>
    intro i k hi hk
    have h3 : i = 10 := hi
    subst h3
    refine wp_loop ?_
    repeat (first | refine wp_as ?_ | refine wp_ss ?_ | refine wp_rs (by simp; with_reducible rfl) (by simp; with_reducible rfl) ?_ | refine wp_reg (by simp; with_reducible rfl) (by simp; with_reducible rfl) ?_ | (refine wp_ct (t := true) ?_ (fun _ => ?_) (fun hh => nomatch hh); focus (simp; done)) | (refine wp_ct (t := false) ?_ (fun hh => nomatch hh) (fun _ => ?_); focus (simp; done)) | (refine wp_c (t := true) ?_ (fun _ => ?_) (fun hh => nomatch hh); focus (simp; done)) | (refine wp_c (t := false) ?_ (fun hh => nomatch hh) (fun _ => ?_); focus (simp; done)) | refine wp_bs ?_ | refine wp_b ?_ | refine wp_sr ?_ | refine wp_sx ?_ | refine wp_ret' ?_ | refine wp_skip' ?_ | refine wp_exit' ?_)
    exact .inl ⟨rfl, k, by omega, rfl⟩
  | succ m ih =>
    intro i k hi hk
    have hi2 : (i : Int) < 10 := by omega
    have hl := ht.1
    have w2 : IntKind.i64.wrap ((i : Int) + 1) = ((i + 1 : Nat) : Int) := wrapS (by omega)
    obtain ⟨a, k1, ha, hk1, e1⟩ := pick' code c hc k (by omega) (t.length : Int) (by omega) [] []
    obtain ⟨b, k2, hb, hk2, e2⟩ := pick' code c hc k1 (by omega) (t.length : Int) (by omega) [] []
    obtain ⟨d, k3, hd, hk3, e3⟩ := pick' code c hc k2 (by omega) (t.length : Int) (by omega) [] []
    have ha := ha (by omega)
    have hb := hb (by omega)
    have hd := hd (by omega)
    have la : a < t.length := by omega
    have lb : b < t.length := by omega
    have ld : d < t.length := by omega
    have ra := (ht.2.1 _ (List.getElem_mem la)).1
    have rb := (ht.2.1 _ (List.getElem_mem lb)).1
    have rd := (ht.2.1 _ (List.getElem_mem ld)).1
    have lab : b < t[a].length := by omega
    have lbd : d < t[b].length := by omega
    have lda : a < t[d].length := by omega
    have next : wp tb (.loop ic_spec_DrawTurnTriangle_l12) { T := [(6, .bptr 0 0 0), (7, OT t), (8, I ((i + 1 : Nat) : Int))], loc := [R code c k3], M := [] }
      (fun ex st => (ex = .exit 0 ∧ ∃ k' : Nat, k' ≤ k + 3 * (m + 1) ∧ st = { T := [(6, .bptr 0 0 0), (7, OT t), (8, I 10), (24, Bo false)], loc := [R code c k'], M := [] }) ∨
        ex = .ret ∧ ∃ a b d : Int, finish if_spec_DrawTurnTriangle [] st = some ⟨.tup [OT t, I a, I b, I d], [], [], []⟩) := by
      refine wp_imp (ih (i + 1) k3 (by omega) (by omega)) ?_
      rintro ex st (⟨rfl, k', h1, rfl⟩ | ⟨rfl, h⟩)
      · exact .inl ⟨rfl, k', by omega, rfl⟩
      · exact .inr ⟨rfl, h⟩
    have hto : t.take t.length = t := List.take_of_length_le (by omega)
    by_cases x1 : t[a][b] = 1
    rotate_left
    · refine wp_loop ?_
      repeat (first | refine wp_as ?_ | refine wp_ss ?_ | refine wp_rs (by simp [hi2, e1, e2, e3, la, lb, ld, lab, lbd, lda, x1, w2]; with_reducible rfl) (by simp; with_reducible rfl) ?_ | refine wp_reg (by simp [hi2, e1, e2, e3, la, lb, ld, lab, lbd, lda, x1, w2]; with_reducible rfl) (by simp; with_reducible rfl) ?_ | (refine wp_ct (t := true) ?_ (fun _ => ?_) (fun hh => nomatch hh); focus (simp [hi2, e1, e2, e3, la, lb, ld, lab, lbd, lda, x1, w2]; done)) | (refine wp_ct (t := false) ?_ (fun hh => nomatch hh) (fun _ => ?_); focus (simp [hi2, e1, e2, e3, la, lb, ld, lab, lbd, lda, x1, w2]; done)) | (refine wp_c (t := true) ?_ (fun _ => ?_) (fun hh => nomatch hh); focus (simp [hi2, e1, e2, e3, la, lb, ld, lab, lbd, lda, x1, w2]; done)) | (refine wp_c (t := false) ?_ (fun hh => nomatch hh) (fun _ => ?_); focus (simp [hi2, e1, e2, e3, la, lb, ld, lab, lbd, lda, x1, w2]; done)) | refine wp_bs ?_ | refine wp_b ?_ | refine wp_sr ?_ | refine wp_sx ?_ | refine wp_ret' ?_ | refine wp_skip' ?_ | refine wp_exit' ?_)
      exact next
    by_cases x2 : t[b][d] = 1
    rotate_left
    · refine wp_loop ?_
      repeat (first | refine wp_as ?_ | refine wp_ss ?_ | refine wp_rs (by simp [hi2, e1, e2, e3, la, lb, ld, lab, lbd, lda, x1, x2, w2]; with_reducible rfl) (by simp; with_reducible rfl) ?_ | refine wp_reg (by simp [hi2, e1, e2, e3, la, lb, ld, lab, lbd, lda, x1, x2, w2]; with_reducible rfl) (by simp; with_reducible rfl) ?_ | (refine wp_ct (t := true) ?_ (fun _ => ?_) (fun hh => nomatch hh); focus (simp [hi2, e1, e2, e3, la, lb, ld, lab, lbd, lda, x1, x2, w2]; done)) | (refine wp_ct (t := false) ?_ (fun hh => nomatch hh) (fun _ => ?_); focus (simp [hi2, e1, e2, e3, la, lb, ld, lab, lbd, lda, x1, x2, w2]; done)) | (refine wp_c (t := true) ?_ (fun _ => ?_) (fun hh => nomatch hh); focus (simp [hi2, e1, e2, e3, la, lb, ld, lab, lbd, lda, x1, x2, w2]; done)) | (refine wp_c (t := false) ?_ (fun hh => nomatch hh) (fun _ => ?_); focus (simp [hi2, e1, e2, e3, la, lb, ld, lab, lbd, lda, x1, x2, w2]; done)) | refine wp_bs ?_ | refine wp_b ?_ | refine wp_sr ?_ | refine wp_sx ?_ | refine wp_ret' ?_ | refine wp_skip' ?_ | refine wp_exit' ?_)
      exact next
    by_cases x3 : t[d][a] = 1
    rotate_left
    · refine wp_loop ?_
      repeat (first | refine wp_as ?_ | refine wp_ss ?_ | refine wp_rs (by simp [hi2, e1, e2, e3, la, lb, ld, lab, lbd, lda, x1, x2, x3, w2]; with_reducible rfl) (by simp; with_reducible rfl) ?_ | refine wp_reg (by simp [hi2, e1, e2, e3, la, lb, ld, lab, lbd, lda, x1, x2, x3, w2]; with_reducible rfl) (by simp; with_reducible rfl) ?_ | (refine wp_ct (t := true) ?_ (fun _ => ?_) (fun hh => nomatch hh); focus (simp [hi2, e1, e2, e3, la, lb, ld, lab, lbd, lda, x1, x2, x3, w2]; done)) | (refine wp_ct (t := false) ?_ (fun hh => nomatch hh) (fun _ => ?_); focus (simp [hi2, e1, e2, e3, la, lb, ld, lab, lbd, lda, x1, x2, x3, w2]; done)) | (refine wp_c (t := true) ?_ (fun _ => ?_) (fun hh => nomatch hh); focus (simp [hi2, e1, e2, e3, la, lb, ld, lab, lbd, lda, x1, x2, x3, w2]; done)) | (refine wp_c (t := false) ?_ (fun hh => nomatch hh) (fun _ => ?_); focus (simp [hi2, e1, e2, e3, la, lb, ld, lab, lbd, lda, x1, x2, x3, w2]; done)) | refine wp_bs ?_ | refine wp_b ?_ | refine wp_sr ?_ | refine wp_sx ?_ | refine wp_ret' ?_ | refine wp_skip' ?_ | refine wp_exit' ?_)
      exact next
    · refine wp_loop ?_
      repeat (first | refine wp_as ?_ | refine wp_ss ?_ | refine wp_rs (by simp [hi2, e1, e2, e3, la, lb, ld, lab, lbd, lda, x1, x2, x3, w2]; with_reducible rfl) (by simp; with_reducible rfl) ?_ | refine wp_reg (by simp [hi2, e1, e2, e3, la, lb, ld, lab, lbd, lda, x1, x2, x3, w2]; with_reducible rfl) (by simp; with_reducible rfl) ?_ | (refine wp_ct (t := true) ?_ (fun _ => ?_) (fun hh => nomatch hh); focus (simp [hi2, e1, e2, e3, la, lb, ld, lab, lbd, lda, x1, x2, x3, w2]; done)) | (refine wp_ct (t := false) ?_ (fun hh => nomatch hh) (fun _ => ?_); focus (simp [hi2, e1, e2, e3, la, lb, ld, lab, lbd, lda, x1, x2, x3, w2]; done)) | (refine wp_c (t := true) ?_ (fun _ => ?_) (fun hh => nomatch hh); focus (simp [hi2, e1, e2, e3, la, lb, ld, lab, lbd, lda, x1, x2, x3, w2]; done)) | (refine wp_c (t := false) ?_ (fun hh => nomatch hh) (fun _ => ?_); focus (simp [hi2, e1, e2, e3, la, lb, ld, lab, lbd, lda, x1, x2, x3, w2]; done)) | refine wp_bs ?_ | refine wp_b ?_ | refine wp_sr ?_ | refine wp_sx ?_ | refine wp_ret' ?_ | refine wp_skip' ?_ | refine wp_exit' ?_)
      exact .inr ⟨rfl, a, b, d, by simp [if_spec_DrawTurnTriangle, hto]⟩

theorem ev_DrawTurnTriangle (code : List Int) (c : Bool) (h : ∀ x ∈ code, 0 ≤ x ∧ x ≤ 255) (hl : code.length ≤ 10000000) :
    ∃ (t : List (List Int)) (a b d : Int), TS t ∧ limF tb l_spec_DrawTurnTriangle [] [.lst 1 (bytes code) c] [] = some ⟨.tup [OT t, I a, I b, I d], [], [], []⟩ := by
  suffices h : ∃ r, (∃ (t : List (List Int)) (a b d : Int), TS t ∧ r = ⟨.tup [OT t, I a, I b, I d], [], [], []⟩) ∧ Ev tb l_spec_DrawTurnTriangle [] [.lst 1 (bytes code) c] [] r by
    obtain ⟨r, ⟨t, a, b, d, h1, rfl⟩, h⟩ := h
    exact ⟨t, a, b, d, h1, ev_lim h⟩
  obtain ⟨c', e⟩ := ev_newReader code c [[]] (by omega)
  have e1 := ev_lim e
  obtain ⟨t, k, hts, hk, e2⟩ := ev_someTournament (code.take 2000) c' (code_ok h) 0 (by omega) [] []
  rw [show ((0 : Nat) : Int) = 0 from rfl] at e2
  have hcode := code_ok h
  generalize code.take 2000 = code' at *
  have hto : t.take t.length = t := List.take_of_length_le (by omega)
  have v1 := ev_lim (ev_validTournament t false hts.small)
  refine call_ex tb_spec_DrawTurnTriangle rfl ?_
  repeat (first | refine wp_as ?_ | refine wp_ss ?_ | refine wp_rs (by simp [e1, e2]; with_reducible rfl) (by simp; with_reducible rfl) ?_ | refine wp_reg (by simp [e1, e2]; with_reducible rfl) (by simp; with_reducible rfl) ?_ | (refine wp_ct (t := true) ?_ (fun _ => ?_) (fun hh => nomatch hh); focus (simp [e1, e2]; done)) | (refine wp_ct (t := false) ?_ (fun hh => nomatch hh) (fun _ => ?_); focus (simp [e1, e2]; done)) | (refine wp_c (t := true) ?_ (fun _ => ?_) (fun hh => nomatch hh); focus (simp [e1, e2]; done)) | (refine wp_c (t := false) ?_ (fun hh => nomatch hh) (fun _ => ?_); focus (simp [e1, e2]; done)) | refine wp_bs ?_ | refine wp_b ?_ | refine wp_sr ?_ | refine wp_sx ?_ | refine wp_ret' ?_ | refine wp_skip' ?_ | refine wp_exit' ?_)
  have tail : ∀ k' : Nat, k' ≤ 60000 → ∃ (x y : Nat) (z : Int) (k1 k2 k3 k4 : Nat), 
      limF tb l_spec_reader_pick [] [.bptr 0 0 0, I 5] [[R code' c' k']] = some ⟨I x, [], [[R code' c' k1]], []⟩ ∧
      limF tb l_spec_reader_pick [] [.bptr 0 0 0, I 5] [[R code' c' k1]] = some ⟨I y, [], [[R code' c' k2]], []⟩ ∧
      (∃ u : Nat, limF tb l_spec_reader_pick [] [.bptr 0 0 0, I 5] [[R code' c' k2]] = some ⟨I u, [], [[R code' c' k3]], []⟩ ∧
      limF tb l_spec_reader_one [] [.bptr 0 0 0, .lst 1 (ints [(u : Int), -1]) false] [[R code' c' k3]] = some ⟨I z, [], [[R code' c' k4]], []⟩) := by
    intro k' hk'
    obtain ⟨x, k1, _, h1, q1⟩ := pick' code' c' hcode k' (by omega) 5 (by omega) [] []
    obtain ⟨y, k2, _, h2, q2⟩ := pick' code' c' hcode k1 (by omega) 5 (by omega) [] []
    obtain ⟨u, k3, _, h3, q3⟩ := pick' code' c' hcode k2 (by omega) 5 (by omega) [] []
    obtain ⟨z, k4, _, h4, q4⟩ := one2 code' c' hcode k3 (by omega) [(u : Int), -1] (by simp) [] []
    exact ⟨x, y, z, k1, k2, k3, k4, q1, q2, u, q3, q4⟩
  by_cases ht : Tour t
  rotate_left
  · rw [vT_false.2 ht] at v1
    obtain ⟨x, y, z, k1, k2, k3, k4, q1, q2, u, q3, q4⟩ := tail k (by omega)
    repeat (first | refine wp_as ?_ | refine wp_ss ?_ | refine wp_rs (by simp [v1, hto, q1, q2, q3, q4]; with_reducible rfl) (by simp; with_reducible rfl) ?_ | refine wp_reg (by simp [v1, hto, q1, q2, q3, q4]; with_reducible rfl) (by simp; with_reducible rfl) ?_ | (refine wp_ct (t := true) ?_ (fun _ => ?_) (fun hh => nomatch hh); focus (simp [v1, hto, q1, q2, q3, q4]; done)) | (refine wp_ct (t := false) ?_ (fun hh => nomatch hh) (fun _ => ?_); focus (simp [v1, hto, q1, q2, q3, q4]; done)) | (refine wp_c (t := true) ?_ (fun _ => ?_) (fun hh => nomatch hh); focus (simp [v1, hto, q1, q2, q3, q4]; done)) | (refine wp_c (t := false) ?_ (fun hh => nomatch hh) (fun _ => ?_); focus (simp [v1, hto, q1, q2, q3, q4]; done)) | refine wp_bs ?_ | refine wp_b ?_ | refine wp_sr ?_ | refine wp_sx ?_ | refine wp_ret' ?_ | refine wp_skip' ?_ | refine wp_exit' ?_)
    exact ⟨.inr rfl, _, ⟨t, x, y, z, hts, rfl⟩, by simp [if_spec_DrawTurnTriangle, hto]⟩
  rw [vT_true.2 ht] at v1
  obtain ⟨w, k1, _, h1, p1⟩ := pick' code' c' hcode k (by omega) 6 (by omega) [] []
  by_cases hw : 0 < w
  rotate_left
  · have hw0 : w = 0 := by omega
    subst hw0
    obtain ⟨x, y, z, k1, k2, k3, k4, q1, q2, u, q3, q4⟩ := tail k1 (by omega)
    rw [show ((0 : Nat) : Int) = 0 from rfl] at p1
    repeat (first | refine wp_as ?_ | refine wp_ss ?_ | refine wp_rs (by simp [v1, hto, p1, q1, q2, q3, q4]; with_reducible rfl) (by simp; with_reducible rfl) ?_ | refine wp_reg (by simp [v1, hto, p1, q1, q2, q3, q4]; with_reducible rfl) (by simp; with_reducible rfl) ?_ | (refine wp_ct (t := true) ?_ (fun _ => ?_) (fun hh => nomatch hh); focus (simp [v1, hto, p1, q1, q2, q3, q4]; done)) | (refine wp_ct (t := false) ?_ (fun hh => nomatch hh) (fun _ => ?_); focus (simp [v1, hto, p1, q1, q2, q3, q4]; done)) | (refine wp_c (t := true) ?_ (fun _ => ?_) (fun hh => nomatch hh); focus (simp [v1, hto, p1, q1, q2, q3, q4]; done)) | (refine wp_c (t := false) ?_ (fun hh => nomatch hh) (fun _ => ?_); focus (simp [v1, hto, p1, q1, q2, q3, q4]; done)) | refine wp_bs ?_ | refine wp_b ?_ | refine wp_sr ?_ | refine wp_sx ?_ | refine wp_ret' ?_ | refine wp_skip' ?_ | refine wp_exit' ?_)
    exact ⟨.inr rfl, _, ⟨t, x, y, z, hts, rfl⟩, by simp [if_spec_DrawTurnTriangle, hto]⟩
  have hw' : (0 : Int) < w := by omega
  repeat (first | refine wp_as ?_ | refine wp_ss ?_ | refine wp_rs (by simp [v1, hto, p1, hw, hw']; with_reducible rfl) (by simp; with_reducible rfl) ?_ | refine wp_reg (by simp [v1, hto, p1, hw, hw']; with_reducible rfl) (by simp; with_reducible rfl) ?_ | (refine wp_ct (t := true) ?_ (fun _ => ?_) (fun hh => nomatch hh); focus (simp [v1, hto, p1, hw, hw']; done)) | (refine wp_ct (t := false) ?_ (fun hh => nomatch hh) (fun _ => ?_); focus (simp [v1, hto, p1, hw, hw']; done)) | (refine wp_c (t := true) ?_ (fun _ => ?_) (fun hh => nomatch hh); focus (simp [v1, hto, p1, hw, hw']; done)) | (refine wp_c (t := false) ?_ (fun hh => nomatch hh) (fun _ => ?_); focus (simp [v1, hto, p1, hw, hw']; done)) | refine wp_bs ?_ | refine wp_b ?_ | refine wp_sr ?_ | refine wp_sx ?_ | refine wp_ret' ?_ | refine wp_skip' ?_ | refine wp_exit' ?_)
  refine wp_imp (dt_loop code' c' hcode t ht 10 0 k1 (by omega) (by omega)) ?_
  rintro ex st (⟨rfl, k', h2, rfl⟩ | ⟨rfl, a, b, d, h2⟩)
  · simp only [if_true]
    obtain ⟨x, y, z, k1, k2, k3, k4, q1, q2, u, q3, q4⟩ := tail k' (by omega)
    repeat (first | refine wp_as ?_ | refine wp_ss ?_ | refine wp_rs (by simp [hto, q1, q2, q3, q4]; with_reducible rfl) (by simp; with_reducible rfl) ?_ | refine wp_reg (by simp [hto, q1, q2, q3, q4]; with_reducible rfl) (by simp; with_reducible rfl) ?_ | (refine wp_ct (t := true) ?_ (fun _ => ?_) (fun hh => nomatch hh); focus (simp [hto, q1, q2, q3, q4]; done)) | (refine wp_ct (t := false) ?_ (fun hh => nomatch hh) (fun _ => ?_); focus (simp [hto, q1, q2, q3, q4]; done)) | (refine wp_c (t := true) ?_ (fun _ => ?_) (fun hh => nomatch hh); focus (simp [hto, q1, q2, q3, q4]; done)) | (refine wp_c (t := false) ?_ (fun hh => nomatch hh) (fun _ => ?_); focus (simp [hto, q1, q2, q3, q4]; done)) | refine wp_bs ?_ | refine wp_b ?_ | refine wp_sr ?_ | refine wp_sx ?_ | refine wp_ret' ?_ | refine wp_skip' ?_ | refine wp_exit' ?_)
    exact ⟨.inr rfl, _, ⟨t, x, y, z, hts, rfl⟩, by simp [if_spec_DrawTurnTriangle, hto]⟩
  · exact ⟨.inr rfl, _, ⟨t, a, b, d, hts, rfl⟩, h2⟩

end Go.Idl

namespace Go.Idl

open Go

theorem TT.row {n : Nat} {t : List (List Int)} (h : TT n t) {a : Nat} (ha : a < n) : (t.getD a []).length = n := by
  have ha' : a < t.length := by rw [h.1]; exact ha
  rw [List.getD_eq_getElem?_getD, List.getElem?_eq_getElem ha', Option.getD_some]
  exact (h.2 _ (List.getElem_mem ha')).1

theorem fl_row {n : Nat} {t : List (List Int)} (h : TT n t) {a b i : Nat} (ha : a < n) (hb : b < n) (hi : i < n) :
    (fl t a b).getD i [] = if i = b then (t.getD b []).set a 1 else if i = a then (t.getD a []).set b 0 else t.getD i [] := by
  have hl := h.1
  simp only [fl, List.getD_eq_getElem?_getD, List.getElem?_set, List.length_set]
  by_cases h1 : i = b
  · subst h1; simp [hl, hi]
  · by_cases h2 : i = a
    · subst h2; simp [hl, hi, h1, Ne.symm h1]
    · simp [h1, h2, Ne.symm h1, Ne.symm h2]

theorem set_getD (l : List Int) (i j : Nat) (v : Int) (hi : i < l.length) : (l.set i v).getD j 0 = if j = i then v else l.getD j 0 := by
  simp only [List.getD_eq_getElem?_getD, List.getElem?_set]
  by_cases h : j = i
  · subst h; simp [hi]
  · simp [h, Ne.symm h]

theorem fl_g2 {n : Nat} {t : List (List Int)} (h : TT n t) {a b i j : Nat} (ha : a < n) (hb : b < n) (hi : i < n) (hne : a ≠ b) :
    g2 (fl t a b) i j = if i = a ∧ j = b then 0 else if i = b ∧ j = a then 1 else g2 t i j := by
  unfold g2
  rw [fl_row h ha hb hi]
  have r1 := h.row ha
  have r2 := h.row hb
  by_cases h1 : i = b
  · subst h1
    rw [if_pos rfl, set_getD _ _ _ _ (by omega)]
    have : ¬ (i = a ∧ j = i) := fun h => hne h.1.symm
    rw [if_neg this]
    by_cases h2 : j = a
    · simp [h2]
    · simp [h2]
  · rw [if_neg h1]
    have h3 : ¬ (i = b ∧ j = a) := fun h => h1 h.1
    rw [if_neg h3]
    by_cases h2 : i = a
    · subst h2
      rw [if_pos rfl, set_getD _ _ _ _ (by omega)]
      by_cases h4 : j = b
      · simp [h4]
      · simp [h4]
    · have : ¬ (i = a ∧ j = b) := fun h => h2 h.1
      rw [if_neg h2, if_neg this]

theorem fl_scr {n : Nat} {t : List (List Int)} (h : TT n t) {a b i : Nat} (ha : a < n) (hb : b < n) (hi : i < n) (hne : a ≠ b) (h1 : g2 t a b = 1) (h0 : g2 t b a = 0) :
    scr (fl t a b) i = scr t i - (if i = a then 1 else 0) + (if i = b then 1 else 0) := by
  have r1 := h.row ha
  have r2 := h.row hb
  unfold scr
  rw [fl_row h ha hb hi]
  unfold g2 at h1 h0
  by_cases h3 : i = b
  · subst h3
    have hh : a < (t.getD i []).length := by omega
    rw [if_pos rfl, sum_set _ _ _ hh]
    have : (t.getD i [])[a] = 0 := by
      generalize t.getD i [] = r at *
      rw [List.getD_eq_getElem?_getD, List.getElem?_eq_getElem hh] at h0; simpa using h0
    rw [this, if_neg (Ne.symm hne), if_pos rfl]
  · rw [if_neg h3]
    by_cases h2 : i = a
    · subst h2
      have hh : b < (t.getD i []).length := by omega
      rw [if_pos rfl, sum_set _ _ _ hh]
      have : (t.getD i [])[b] = 1 := by
        generalize t.getD i [] = r at *
        rw [List.getD_eq_getElem?_getD, List.getElem?_eq_getElem hh] at h1; simpa using h1
      rw [this, if_pos rfl, if_neg h3]
    · rw [if_neg h2, if_neg h2, if_neg h3]; omega

theorem TT.ext {n : Nat} {t u : List (List Int)} (ht : TT n t) (hu : TT n u) (h : ∀ i j, i < n → j < n → g2 t i j = g2 u i j) : t = u := by
  rw [← tabF_self ht, ← tabF_self hu]
  unfold tabF
  refine List.map_congr_left fun i hi => ?_
  unfold mapR
  exact List.map_congr_left fun j hj => h i j (List.mem_range.1 hi) (List.mem_range.1 hj)

theorem Tri.back0 {t a b c} (h : Tri t a b c) : g2 t b a = 0 ∧ g2 t c b = 0 ∧ g2 t a c = 0 := by
  have h1 := h.tr.2.2 a b h.la h.lb
  have h2 := h.tr.2.2 b c h.lb h.lc
  have h3 := h.tr.2.2 c a h.lc h.la
  simp only [tAt, h.nab, h.nbc, h.nca, if_false] at h1 h2 h3
  have := h.ab
  have := h.bc
  have := h.ca
  omega

theorem turned_tt {t a b c} (h : Tri t a b c) : TT t.length (turned t a b c) :=
  ((h.tr.tt.fl h.la h.lb h.nab).fl h.lb h.lc h.nbc).fl h.lc h.la h.nca

theorem turned_g2 {t a b c} (h : Tri t a b c) {i j : Nat} (hi : i < t.length) : g2 (turned t a b c) i j =
    if i = c ∧ j = a then 0 else if i = a ∧ j = c then 1 else if i = b ∧ j = c then 0 else if i = c ∧ j = b then 1 else if i = a ∧ j = b then 0 else if i = b ∧ j = a then 1 else g2 t i j := by
  have t0 := h.tr.tt
  have t1 := t0.fl h.la h.lb h.nab
  have t2 := t1.fl h.lb h.lc h.nbc
  unfold turned
  rw [fl_g2 t2 h.lc h.la hi h.nca, fl_g2 t1 h.lb h.lc hi h.nbc, fl_g2 t0 h.la h.lb hi h.nab]

theorem turned_scores {t a b c} (h : Tri t a b c) : scores (turned t a b c) = scores t := by
  have t0 := h.tr.tt
  have t1 := t0.fl h.la h.lb h.nab
  have t2 := t1.fl h.lb h.lc h.nbc
  have t3 := turned_tt h
  obtain ⟨b1, b2, b3⟩ := h.back0
  have nab := h.nab
  have nbc := h.nbc
  have nca := h.nca
  unfold scores
  rw [t3.1]
  unfold mapR
  refine List.map_congr_left fun i hi => ?_
  have hi := List.mem_range.1 hi
  have p1 : g2 (fl t a b) b c = 1 := by rw [fl_g2 t0 h.la h.lb h.lb nab, if_neg (fun e => nab e.1.symm), if_neg (fun e => nca e.2)]; exact h.bc
  have p2 : g2 (fl t a b) c b = 0 := by rw [fl_g2 t0 h.la h.lb h.lc nab, if_neg (fun e => nca e.1), if_neg (fun e => nbc e.1.symm)]; exact b2
  have q1 : g2 (fl (fl t a b) b c) c a = 1 := by
    rw [fl_g2 t1 h.lb h.lc h.lc nbc, if_neg (fun e => nbc e.1.symm), if_neg (fun e => nab e.2), fl_g2 t0 h.la h.lb h.lc nab, if_neg (fun e => nca e.1), if_neg (fun e => nbc e.1.symm)]; exact h.ca
  have q2 : g2 (fl (fl t a b) b c) a c = 0 := by
    rw [fl_g2 t1 h.lb h.lc h.la nbc, if_neg (fun e => nab e.1), if_neg (fun e => nca e.1.symm), fl_g2 t0 h.la h.lb h.la nab, if_neg (fun e => nbc e.2.symm), if_neg (fun e => nab e.1)]; exact b3
  unfold turned
  rw [fl_scr t2 h.lc h.la hi nca q1 q2, fl_scr t1 h.lb h.lc hi nbc p1 p2, fl_scr t0 h.la h.lb hi nab h.ab b1]
  omega

theorem turned_tour {t a b c} (h : Tri t a b c) : Tour (turned t a b c) := by
  have t3 := turned_tt h
  refine ⟨by rw [t3.1]; exact h.tr.1, fun r hr => by rw [t3.1]; exact t3.2 r hr, fun i j hi hj => ?_⟩
  rw [t3.1] at hi hj
  have h0 := h.tr.2.2 i j hi hj
  have nab := h.nab
  have nbc := h.nbc
  have nca := h.nca
  unfold tAt at h0 ⊢
  rw [turned_g2 h hi, turned_g2 h hj]
  by_cases e : i = j
  · subst e
    simp only [if_true] at h0 ⊢
    repeat' split
    all_goals (first | omega | exact h0)
  · simp only [e, if_false] at h0 ⊢
    repeat' split
    all_goals (first | omega | exact h0)

theorem turned_tri {t a b c} (h : Tri t a b c) : Tri (turned t a b c) a c b := by
  have t3 := turned_tt h
  have nab := h.nab
  have nbc := h.nbc
  have nca := h.nca
  have la := h.la
  have lb := h.lb
  have lc := h.lc
  refine ⟨turned_tour h, by rw [t3.1]; exact la, by rw [t3.1]; exact lc, by rw [t3.1]; exact lb, ?_, ?_, ?_⟩
  · rw [turned_g2 h la]; simp [Ne.symm nca]
  · rw [turned_g2 h lc]; simp [Ne.symm nab, nab, nca, Ne.symm nbc, nbc]
  · rw [turned_g2 h lb]; simp [Ne.symm nab, nab, nca, Ne.symm nca, Ne.symm nbc, nbc]

theorem turned_back {t a b c} (h : Tri t a b c) : turned (turned t a b c) a c b = t := by
  have t3 := turned_tt h
  have h' := turned_tri h
  have t4 := turned_tt h'
  rw [t3.1] at t4
  refine t4.ext h.tr.tt fun i j hi hj => ?_
  rw [turned_g2 h' (by rw [t3.1]; exact hi), turned_g2 h hi]
  obtain ⟨b1, b2, b3⟩ := h.back0
  have x1 := h.ab
  have x2 := h.bc
  have x3 := h.ca
  have nab := h.nab
  have nbc := h.nbc
  have nca := h.nca
  by_cases e1 : i = a ∧ j = b
  · obtain ⟨rfl, rfl⟩ := e1; simp [nab, Ne.symm nab, nbc, Ne.symm nbc, nca, Ne.symm nca, x1]
  by_cases e2 : i = b ∧ j = c
  · obtain ⟨rfl, rfl⟩ := e2; simp [nab, Ne.symm nab, nbc, Ne.symm nbc, nca, Ne.symm nca, x2]
  by_cases e3 : i = c ∧ j = a
  · obtain ⟨rfl, rfl⟩ := e3; simp [nab, Ne.symm nab, nbc, Ne.symm nbc, nca, Ne.symm nca, x3]
  by_cases e4 : i = b ∧ j = a
  · obtain ⟨rfl, rfl⟩ := e4; simp [nab, Ne.symm nab, nbc, Ne.symm nbc, nca, Ne.symm nca, b1]
  by_cases e5 : i = c ∧ j = b
  · obtain ⟨rfl, rfl⟩ := e5; simp [nab, Ne.symm nab, nbc, Ne.symm nbc, nca, Ne.symm nca, b2]
  by_cases e6 : i = a ∧ j = c
  · obtain ⟨rfl, rfl⟩ := e6; simp [nab, Ne.symm nab, nbc, Ne.symm nbc, nca, Ne.symm nca, b3]
  rw [if_neg e4, if_neg e1, if_neg e5, if_neg e2, if_neg e6, if_neg e3, if_neg e3, if_neg e6, if_neg e2, if_neg e5, if_neg e1, if_neg e4]

end Go.Idl

namespace Go.Idl

open Go

theorem ev_equalLists_Z : Ev tb l_laws_equalLists [] [Z, Z] [] ⟨Bo true, [], [], []⟩ := by
  refine call_of_wp tb_laws_equalLists rfl ?_
  repeat (first | refine wp_as ?_ | refine wp_ss ?_ | refine wp_rs (by simp; with_reducible rfl) (by simp; with_reducible rfl) ?_ | refine wp_reg (by simp; with_reducible rfl) (by simp; with_reducible rfl) ?_ | (refine wp_ct (t := true) ?_ (fun _ => ?_) (fun hh => nomatch hh); focus (simp; done)) | (refine wp_ct (t := false) ?_ (fun hh => nomatch hh) (fun _ => ?_); focus (simp; done)) | (refine wp_c (t := true) ?_ (fun _ => ?_) (fun hh => nomatch hh); focus (simp; done)) | (refine wp_c (t := false) ?_ (fun hh => nomatch hh) (fun _ => ?_); focus (simp; done)) | refine wp_bs ?_ | refine wp_b ?_ | refine wp_sr ?_ | refine wp_sx ?_ | refine wp_ret' ?_ | refine wp_skip' ?_ | refine wp_exit' ?_)
  refine wp_loop ?_
  repeat (first | refine wp_as ?_ | refine wp_ss ?_ | refine wp_rs (by simp; with_reducible rfl) (by simp; with_reducible rfl) ?_ | refine wp_reg (by simp; with_reducible rfl) (by simp; with_reducible rfl) ?_ | (refine wp_ct (t := true) ?_ (fun _ => ?_) (fun hh => nomatch hh); focus (simp; done)) | (refine wp_ct (t := false) ?_ (fun hh => nomatch hh) (fun _ => ?_); focus (simp; done)) | (refine wp_c (t := true) ?_ (fun _ => ?_) (fun hh => nomatch hh); focus (simp; done)) | (refine wp_c (t := false) ?_ (fun hh => nomatch hh) (fun _ => ?_); focus (simp; done)) | refine wp_bs ?_ | refine wp_b ?_ | refine wp_sr ?_ | refine wp_sx ?_ | refine wp_ret' ?_ | refine wp_skip' ?_ | refine wp_exit' ?_)
  simp [if_laws_equalLists]

theorem ev_FnTurnTriangle (code : List Int) (c : Bool) (h : ∀ x ∈ code, 0 ≤ x ∧ x ≤ 255) :
    Ev tb l_laws_FnTurnTriangle [] [.lst 1 (bytes code) c] [] ⟨Bo true, [], [], []⟩ := by
  by_cases hc : (1048576 : Int) < code.length
  · refine call_of_wp tb_laws_FnTurnTriangle rfl ?_
    repeat (first | refine wp_as ?_ | refine wp_ss ?_ | refine wp_rs (by simp [hc]; with_reducible rfl) (by simp; with_reducible rfl) ?_ | refine wp_reg (by simp [hc]; with_reducible rfl) (by simp; with_reducible rfl) ?_ | (refine wp_ct (t := true) ?_ (fun _ => ?_) (fun hh => nomatch hh); focus (simp [hc]; done)) | (refine wp_ct (t := false) ?_ (fun hh => nomatch hh) (fun _ => ?_); focus (simp [hc]; done)) | (refine wp_c (t := true) ?_ (fun _ => ?_) (fun hh => nomatch hh); focus (simp [hc]; done)) | (refine wp_c (t := false) ?_ (fun hh => nomatch hh) (fun _ => ?_); focus (simp [hc]; done)) | refine wp_bs ?_ | refine wp_b ?_ | refine wp_sr ?_ | refine wp_sx ?_ | refine wp_ret' ?_ | refine wp_skip' ?_ | refine wp_exit' ?_)
    simp [if_laws_FnTurnTriangle]
  obtain ⟨t, a, b, d, hts, e1⟩ := ev_DrawTurnTriangle code c h (by omega)
  have hs := hts.small
  have hl := hts.1
  have hto : t.take t.length = t := List.take_of_length_le (by omega)
  by_cases hT : TriI t a b d
  rotate_left
  · have e2 := ev_lim (ev_impl_TurnTriangle_no t false a b d hs hT)
    have e3 := ev_lim (ev_spec_TurnTriangle_no t false a b d hs hT)
    have e4 := ev_lim ev_equalLists_Z
    refine call_of_wp tb_laws_FnTurnTriangle rfl ?_
    repeat (first | refine wp_as ?_ | refine wp_ss ?_ | refine wp_rs (by simp [hc, e1, e2, e3, e4, hto]; with_reducible rfl) (by simp; with_reducible rfl) ?_ | refine wp_reg (by simp [hc, e1, e2, e3, e4, hto]; with_reducible rfl) (by simp; with_reducible rfl) ?_ | (refine wp_ct (t := true) ?_ (fun _ => ?_) (fun hh => nomatch hh); focus (simp [hc, e1, e2, e3, e4, hto]; done)) | (refine wp_ct (t := false) ?_ (fun hh => nomatch hh) (fun _ => ?_); focus (simp [hc, e1, e2, e3, e4, hto]; done)) | (refine wp_c (t := true) ?_ (fun _ => ?_) (fun hh => nomatch hh); focus (simp [hc, e1, e2, e3, e4, hto]; done)) | (refine wp_c (t := false) ?_ (fun hh => nomatch hh) (fun _ => ?_); focus (simp [hc, e1, e2, e3, e4, hto]; done)) | refine wp_bs ?_ | refine wp_b ?_ | refine wp_sr ?_ | refine wp_sx ?_ | refine wp_ret' ?_ | refine wp_skip' ?_ | refine wp_exit' ?_)
    simp [if_laws_FnTurnTriangle]
  obtain ⟨x, y, z, rfl, rfl, rfl, hT⟩ := hT
  have hT' := turned_tri hT
  have hu := turned_tour hT
  have hsc := turned_scores hT
  have hba := turned_back hT
  have e2 := ev_lim (ev_impl_TurnTriangle t false x y z hT)
  have e3 := ev_lim (ev_spec_TurnTriangle t false x y z hT)
  have e5 := ev_lim (ev_impl_TurnTriangle (turned t x y z) false x z y hT')
  rw [hba] at e5
  have e6 := ev_lim (ev_ScoresOf t false hT.tr)
  have e7 := ev_lim (ev_ScoresOf (turned t x y z) false hu)
  rw [hsc] at e7
  have hsl := scores_len t
  have e8 := ev_lim (ev_equalInts (scores t) (scores t) false false (by omega) (by omega))
  have e9 := ev_lim (ev_IsStrong t false hT.tr (scores_few hT.tr))
  have e10 := ev_lim (ev_IsStrong (turned t x y z) false hu (by rw [hsc]; exact scores_few hT.tr))
  rw [hsc] at e10
  have e11 := ev_lim (ev_equalLists t t false false hs hs)
  have hus := hu.small
  obtain ⟨u, hue⟩ : ∃ u, u = turned t x y z := ⟨_, rfl⟩
  rw [← hue] at e2 e3 e5 e7 e10 hus hu
  have e4 := ev_lim (ev_equalLists u u false false hus hus)
  rw [decide_eq_true rfl] at e4 e8 e11
  have hul := hu.1
  have huo : u.take u.length = u := List.take_of_length_le (by omega)
  generalize lastOnly (scores t) = bb at *
  refine call_of_wp tb_laws_FnTurnTriangle rfl ?_
  repeat (first | refine wp_as ?_ | refine wp_ss ?_ | refine wp_rs (by simp [hc, e1, e2, e3, e4, e5, e6, e7, e8, e9, e10, e11, hto, huo]; with_reducible rfl) (by simp; with_reducible rfl) ?_ | refine wp_reg (by simp [hc, e1, e2, e3, e4, e5, e6, e7, e8, e9, e10, e11, hto, huo]; with_reducible rfl) (by simp; with_reducible rfl) ?_ | (refine wp_ct (t := true) ?_ (fun _ => ?_) (fun hh => nomatch hh); focus (simp [hc, e1, e2, e3, e4, e5, e6, e7, e8, e9, e10, e11, hto, huo]; done)) | (refine wp_ct (t := false) ?_ (fun hh => nomatch hh) (fun _ => ?_); focus (simp [hc, e1, e2, e3, e4, e5, e6, e7, e8, e9, e10, e11, hto, huo]; done)) | (refine wp_c (t := true) ?_ (fun _ => ?_) (fun hh => nomatch hh); focus (simp [hc, e1, e2, e3, e4, e5, e6, e7, e8, e9, e10, e11, hto, huo]; done)) | (refine wp_c (t := false) ?_ (fun hh => nomatch hh) (fun _ => ?_); focus (simp [hc, e1, e2, e3, e4, e5, e6, e7, e8, e9, e10, e11, hto, huo]; done)) | refine wp_bs ?_ | refine wp_b ?_ | refine wp_sr ?_ | refine wp_sx ?_ | refine wp_ret' ?_ | refine wp_skip' ?_ | refine wp_exit' ?_)
  simp [if_laws_FnTurnTriangle]

end Go.Idl

