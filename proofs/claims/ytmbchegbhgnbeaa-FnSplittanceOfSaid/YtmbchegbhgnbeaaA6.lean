/- Part 6 of a proof by an ideal interpreter of the code: its definitions and lemmas. Conditions: none. -/
import Derived.KernelRfl
import Derived.Test.YtmbchegbhgnbeaaA5
set_option linter.all false
set_option linter.unusedVariables false
set_option linter.unusedSimpArgs false
namespace Go.Idl

open Go

theorem ev_durfee (d : List Int) (c : Bool) (hl : d.length ≤ 7) : Ev tb l_spec_durfee [] [L d c] [] ⟨I (durf (fall d)), [], [], []⟩ := by
  have e1 := ev_lim (ev_spec_falling d c (by omega))
  have hfl := fall_len d
  generalize fall d = s at *
  have loop : ∀ (m i k : Nat), i + m = s.length → k ≤ i → wp tb (.loop ic_spec_durfee_l8) { T := [(3, O s), (4, I k), (5, I i)], loc := [], M := [] }
      (fun ex st => ex = .exit 0 ∧ st = { T := [(3, O s), (4, I (durfA (s.drop i) i k)), (5, I s.length), (11, Bo false)], loc := [], M := [] }) := by
    intro m
    induction m with
    | zero =>
      intro i k hi hk
      obtain ⟨h1, h2⟩ := drop_end hi
      have h3 : i = s.length := hi
      subst h3
      refine wp_loop ?_
      repeat (first | refine wp_as ?_ | refine wp_ss ?_ | refine wp_rs (by simp; with_reducible rfl) (by simp; with_reducible rfl) ?_ | refine wp_reg (by simp; with_reducible rfl) (by simp; with_reducible rfl) ?_ | (refine wp_ct (t := true) ?_ (fun _ => ?_) (fun hh => nomatch hh); focus (simp; done)) | (refine wp_ct (t := false) ?_ (fun hh => nomatch hh) (fun _ => ?_); focus (simp; done)) | (refine wp_c (t := true) ?_ (fun _ => ?_) (fun hh => nomatch hh); focus (simp; done)) | (refine wp_c (t := false) ?_ (fun hh => nomatch hh) (fun _ => ?_); focus (simp; done)) | refine wp_bs ?_ | refine wp_b ?_ | refine wp_sr ?_ | refine wp_sx ?_ | refine wp_ret' ?_ | refine wp_skip' ?_ | refine wp_exit' ?_)
      rw [h2]; exact ⟨rfl, rfl⟩
    | succ m ih =>
      intro i k hi hk
      obtain ⟨hi2, h2, h3⟩ := drop_get hi
      have w2 : IntKind.i64.wrap ((i : Int) + 1) = ((i + 1 : Nat) : Int) := wrapS (by omega)
      rw [h2, durfA]
      by_cases hq : (i : Int) ≤ s[i]
      · rw [if_pos hq]
        refine wp_loop ?_
        repeat (first | refine wp_as ?_ | refine wp_ss ?_ | refine wp_rs (by simp [hi2, hq, w2]; with_reducible rfl) (by simp; with_reducible rfl) ?_ | refine wp_reg (by simp [hi2, hq, w2]; with_reducible rfl) (by simp; with_reducible rfl) ?_ | (refine wp_ct (t := true) ?_ (fun _ => ?_) (fun hh => nomatch hh); focus (simp [hi2, hq, w2]; done)) | (refine wp_ct (t := false) ?_ (fun hh => nomatch hh) (fun _ => ?_); focus (simp [hi2, hq, w2]; done)) | (refine wp_c (t := true) ?_ (fun _ => ?_) (fun hh => nomatch hh); focus (simp [hi2, hq, w2]; done)) | (refine wp_c (t := false) ?_ (fun hh => nomatch hh) (fun _ => ?_); focus (simp [hi2, hq, w2]; done)) | refine wp_bs ?_ | refine wp_b ?_ | refine wp_sr ?_ | refine wp_sx ?_ | refine wp_ret' ?_ | refine wp_skip' ?_ | refine wp_exit' ?_)
        exact ih (i + 1) (i + 1) (by omega) (by omega)
      · rw [if_neg hq]
        refine wp_loop ?_
        repeat (first | refine wp_as ?_ | refine wp_ss ?_ | refine wp_rs (by simp [hi2, hq, w2]; with_reducible rfl) (by simp; with_reducible rfl) ?_ | refine wp_reg (by simp [hi2, hq, w2]; with_reducible rfl) (by simp; with_reducible rfl) ?_ | (refine wp_ct (t := true) ?_ (fun _ => ?_) (fun hh => nomatch hh); focus (simp [hi2, hq, w2]; done)) | (refine wp_ct (t := false) ?_ (fun hh => nomatch hh) (fun _ => ?_); focus (simp [hi2, hq, w2]; done)) | (refine wp_c (t := true) ?_ (fun _ => ?_) (fun hh => nomatch hh); focus (simp [hi2, hq, w2]; done)) | (refine wp_c (t := false) ?_ (fun hh => nomatch hh) (fun _ => ?_); focus (simp [hi2, hq, w2]; done)) | refine wp_bs ?_ | refine wp_b ?_ | refine wp_sr ?_ | refine wp_sx ?_ | refine wp_ret' ?_ | refine wp_skip' ?_ | refine wp_exit' ?_)
        exact ih (i + 1) k (by omega) (by omega)
  refine call_of_wp tb_spec_durfee rfl ?_
  repeat (first | refine wp_as ?_ | refine wp_ss ?_ | refine wp_rs (by simp [e1]; with_reducible rfl) (by simp; with_reducible rfl) ?_ | refine wp_reg (by simp [e1]; with_reducible rfl) (by simp; with_reducible rfl) ?_ | (refine wp_ct (t := true) ?_ (fun _ => ?_) (fun hh => nomatch hh); focus (simp [e1]; done)) | (refine wp_ct (t := false) ?_ (fun hh => nomatch hh) (fun _ => ?_); focus (simp [e1]; done)) | (refine wp_c (t := true) ?_ (fun _ => ?_) (fun hh => nomatch hh); focus (simp [e1]; done)) | (refine wp_c (t := false) ?_ (fun hh => nomatch hh) (fun _ => ?_); focus (simp [e1]; done)) | refine wp_bs ?_ | refine wp_b ?_ | refine wp_sr ?_ | refine wp_sx ?_ | refine wp_ret' ?_ | refine wp_skip' ?_ | refine wp_exit' ?_)
  refine wp_imp (loop s.length 0 0 (by simp) (by omega)) ?_
  rintro ex st ⟨rfl, rfl⟩
  try simp only [if_true]
  repeat (first | refine wp_as ?_ | refine wp_ss ?_ | refine wp_rs (by simp; with_reducible rfl) (by simp; with_reducible rfl) ?_ | refine wp_reg (by simp; with_reducible rfl) (by simp; with_reducible rfl) ?_ | (refine wp_ct (t := true) ?_ (fun _ => ?_) (fun hh => nomatch hh); focus (simp; done)) | (refine wp_ct (t := false) ?_ (fun hh => nomatch hh) (fun _ => ?_); focus (simp; done)) | (refine wp_c (t := true) ?_ (fun _ => ?_) (fun hh => nomatch hh); focus (simp; done)) | (refine wp_c (t := false) ?_ (fun hh => nomatch hh) (fun _ => ?_); focus (simp; done)) | refine wp_bs ?_ | refine wp_b ?_ | refine wp_sr ?_ | refine wp_sx ?_ | refine wp_ret' ?_ | refine wp_skip' ?_ | refine wp_exit' ?_)
  simp [if_spec_durfee, durf]

theorem ev_splittance (d : List Int) (c : Bool) (hv : valid d = true) : Ev tb l_spec_splittance [] [L d c] [] ⟨I (if d.length = 0 then 0 else (slacks d).getD (durf (fall d) - 1) 0), [], [], []⟩ := by
  have hf := valid_few hv
  have e1 := ev_lim (ev_durfee d c hf.1)
  by_cases h0 : d.length = 0
  · have hd : d = [] := List.length_eq_zero_iff.1 h0
    subst hd
    have hz : durf (fall []) = 0 := rfl
    rw [hz, show ((0 : Nat) : Int) = 0 from rfl] at e1
    rw [if_pos h0]
    refine call_of_wp tb_spec_splittance rfl ?_
    repeat (first | refine wp_as ?_ | refine wp_ss ?_ | refine wp_rs (by simp [e1]; with_reducible rfl) (by simp; with_reducible rfl) ?_ | refine wp_reg (by simp [e1]; with_reducible rfl) (by simp; with_reducible rfl) ?_ | (refine wp_ct (t := true) ?_ (fun _ => ?_) (fun hh => nomatch hh); focus (simp [e1]; done)) | (refine wp_ct (t := false) ?_ (fun hh => nomatch hh) (fun _ => ?_); focus (simp [e1]; done)) | (refine wp_c (t := true) ?_ (fun _ => ?_) (fun hh => nomatch hh); focus (simp [e1]; done)) | (refine wp_c (t := false) ?_ (fun hh => nomatch hh) (fun _ => ?_); focus (simp [e1]; done)) | refine wp_bs ?_ | refine wp_b ?_ | refine wp_sr ?_ | refine wp_sx ?_ | refine wp_ret' ?_ | refine wp_skip' ?_ | refine wp_exit' ?_)
    simp [if_spec_splittance]
  have e2 := ev_lim (ev_slacks d c hf)
  have hd1 := durf_le (fall d)
  have hd2 : 1 ≤ durf (fall d) := durf_ge (fun h => h0 (by rw [← fall_len, h]; rfl)) (fun x hx => (hf.fall.2 x hx).1)
  rw [fall_len] at hd1
  have hsl := slacks_len d
  obtain ⟨k, hk⟩ : ∃ k, durf (fall d) = k + 1 := ⟨durf (fall d) - 1, by omega⟩
  have hl := hf.1
  have w1 : IntKind.i64.wrap (k : Int) = (k : Int) := wrap64 (by omega) (by omega)
  have hk2 : k < (slacks d).length := by omega
  have hs : (slacks d).getD (durf (fall d) - 1) 0 = (slacks d)[k] := by
    rw [hk, Nat.add_sub_cancel, List.getD_eq_getElem?_getD, List.getElem?_eq_getElem hk2]; rfl
  have hkz : ¬ (k : Int) + 1 = 0 := by omega
  rw [if_neg h0, hs]
  rw [hk] at e1
  refine call_of_wp tb_spec_splittance rfl ?_
  repeat (first | refine wp_as ?_ | refine wp_ss ?_ | refine wp_rs (by simp [e1, e2, w1, hk2, hkz]; with_reducible rfl) (by simp; with_reducible rfl) ?_ | refine wp_reg (by simp [e1, e2, w1, hk2, hkz]; with_reducible rfl) (by simp; with_reducible rfl) ?_ | (refine wp_ct (t := true) ?_ (fun _ => ?_) (fun hh => nomatch hh); focus (simp [e1, e2, w1, hk2, hkz]; done)) | (refine wp_ct (t := false) ?_ (fun hh => nomatch hh) (fun _ => ?_); focus (simp [e1, e2, w1, hk2, hkz]; done)) | (refine wp_c (t := true) ?_ (fun _ => ?_) (fun hh => nomatch hh); focus (simp [e1, e2, w1, hk2, hkz]; done)) | (refine wp_c (t := false) ?_ (fun hh => nomatch hh) (fun _ => ?_); focus (simp [e1, e2, w1, hk2, hkz]; done)) | refine wp_bs ?_ | refine wp_b ?_ | refine wp_sr ?_ | refine wp_sx ?_ | refine wp_ret' ?_ | refine wp_skip' ?_ | refine wp_exit' ?_)
  simp [if_spec_splittance]

theorem ev_spec_SplittanceOf (d : List Int) (c : Bool) (hl : d.length ≤ 1000000) : Ev tb l_spec_SplittanceOf [] [L d c] [] ⟨I (splitt d), [], [], []⟩ := by
  have e1 := ev_lim (ev_validDegrees d c hl)
  cases hv : valid d with
  | false =>
    rw [hv] at e1
    have hg : graphic d = false := by simp [graphic, hv]
    rw [splitt, hg]
    refine call_of_wp tb_spec_SplittanceOf rfl ?_
    repeat (first | refine wp_as ?_ | refine wp_ss ?_ | refine wp_rs (by simp [e1]; with_reducible rfl) (by simp; with_reducible rfl) ?_ | refine wp_reg (by simp [e1]; with_reducible rfl) (by simp; with_reducible rfl) ?_ | (refine wp_ct (t := true) ?_ (fun _ => ?_) (fun hh => nomatch hh); focus (simp [e1]; done)) | (refine wp_ct (t := false) ?_ (fun hh => nomatch hh) (fun _ => ?_); focus (simp [e1]; done)) | (refine wp_c (t := true) ?_ (fun _ => ?_) (fun hh => nomatch hh); focus (simp [e1]; done)) | (refine wp_c (t := false) ?_ (fun hh => nomatch hh) (fun _ => ?_); focus (simp [e1]; done)) | refine wp_bs ?_ | refine wp_b ?_ | refine wp_sr ?_ | refine wp_sx ?_ | refine wp_ret' ?_ | refine wp_skip' ?_ | refine wp_exit' ?_)
    simp [if_spec_SplittanceOf]
  | true =>
  rw [hv] at e1
  have hf := valid_few hv
  have h7 := hf.1
  have e2 := ev_lim (ev_isGraphic d c hv)
  cases hg : graphic d with
  | false =>
    rw [hg] at e2
    rw [splitt, hg]
    refine call_of_wp tb_spec_SplittanceOf rfl ?_
    repeat (first | refine wp_as ?_ | refine wp_ss ?_ | refine wp_rs (by simp [e1, e2]; with_reducible rfl) (by simp; with_reducible rfl) ?_ | refine wp_reg (by simp [e1, e2]; with_reducible rfl) (by simp; with_reducible rfl) ?_ | (refine wp_ct (t := true) ?_ (fun _ => ?_) (fun hh => nomatch hh); focus (simp [e1, e2]; done)) | (refine wp_ct (t := false) ?_ (fun hh => nomatch hh) (fun _ => ?_); focus (simp [e1, e2]; done)) | (refine wp_c (t := true) ?_ (fun _ => ?_) (fun hh => nomatch hh); focus (simp [e1, e2]; done)) | (refine wp_c (t := false) ?_ (fun hh => nomatch hh) (fun _ => ?_); focus (simp [e1, e2]; done)) | refine wp_bs ?_ | refine wp_b ?_ | refine wp_sr ?_ | refine wp_sx ?_ | refine wp_ret' ?_ | refine wp_skip' ?_ | refine wp_exit' ?_)
    simp [if_spec_SplittanceOf]
  | true =>
  rw [hg] at e2
  have e3 := ev_lim (ev_splittance d c hv)
  have hb : 0 ≤ (if d.length = 0 then 0 else (slacks d).getD (durf (fall d) - 1) 0) ∧ (if d.length = 0 then 0 else (slacks d).getD (durf (fall d) - 1) 0) ≤ 200 := by
    split
    · omega
    · rw [List.getD_eq_getElem?_getD]
      cases hq : (slacks d)[durf (fall d) - 1]? with
      | none => simp
      | some x =>
        have hm := List.mem_of_getElem? hq
        have hg2 := hg
        simp only [graphic, Bool.and_eq_true, List.all_eq_true, decide_eq_true_eq] at hg2
        have h1 := hg2.2 x hm
        simp only [slacks, List.mem_map, List.mem_range] at hm
        obtain ⟨i, hi, rfl⟩ := hm
        have h2 := slk_bound (s := fall d) (k := i + 1) (by omega) hf.fall.1 hf.fall.2
        simp only [Option.getD_some]
        omega
  have hs : splitt d = (if d.length = 0 then 0 else (slacks d).getD (durf (fall d) - 1) 0).tdiv 2 := by
    rw [splitt, hg, if_pos rfl]
    split
    · rfl
    · rfl
  rw [hs]
  generalize (if d.length = 0 then 0 else (slacks d).getD (durf (fall d) - 1) 0) = v at *
  have w2 : IntKind.i64.wrap (v.tdiv 2) = v.tdiv 2 := by
    rw [Int.tdiv_eq_ediv_of_nonneg hb.1]; exact wrap64 (by omega) (by omega)
  refine call_of_wp tb_spec_SplittanceOf rfl ?_
  repeat (first | refine wp_as ?_ | refine wp_ss ?_ | refine wp_rs (by simp [e1, e2, e3, w2]; with_reducible rfl) (by simp; with_reducible rfl) ?_ | refine wp_reg (by simp [e1, e2, e3, w2]; with_reducible rfl) (by simp; with_reducible rfl) ?_ | (refine wp_ct (t := true) ?_ (fun _ => ?_) (fun hh => nomatch hh); focus (simp [e1, e2, e3, w2]; done)) | (refine wp_ct (t := false) ?_ (fun hh => nomatch hh) (fun _ => ?_); focus (simp [e1, e2, e3, w2]; done)) | (refine wp_c (t := true) ?_ (fun _ => ?_) (fun hh => nomatch hh); focus (simp [e1, e2, e3, w2]; done)) | (refine wp_c (t := false) ?_ (fun hh => nomatch hh) (fun _ => ?_); focus (simp [e1, e2, e3, w2]; done)) | refine wp_bs ?_ | refine wp_b ?_ | refine wp_sr ?_ | refine wp_sx ?_ | refine wp_ret' ?_ | refine wp_skip' ?_ | refine wp_exit' ?_)
  simp [if_spec_SplittanceOf]

end Go.Idl

namespace Go.Idl

open Go

@[simp] theorem get_mid {α : Type} (A bs : List α) (x : α) : (A ++ x :: bs)[A.length]? = some x := by simp

@[simp] theorem set_mid {α : Type} (A bs : List α) (x y : α) : (A ++ x :: bs).set A.length y = A ++ y :: bs := by
  rw [List.set_append_right _ _ (Nat.le_refl _)]; simp

@[simp] theorem set_last {α : Type} (A : List α) (x y : α) : (A ++ [x]).set A.length y = A ++ [y] := set_mid A [] x y

end Go.Idl

namespace Go.Idl

open Go

/-- Edges whose numbers fit. -/
def Fit (es : List (Int × Int)) : Prop := ∀ e ∈ es, -9223372036854775808 ≤ e.1 ∧ e.1 < 9223372036854775808 ∧ -9223372036854775808 ≤ e.2 ∧ e.2 < 9223372036854775808

def below (a b : Int × Int) : Bool := decide (a.1 < b.1) || (decide (a.1 = b.1) && decide (a.2 < b.2))

theorem ev_edgeBelow (a b : Int × Int) : Ev tb l_spec_edgeBelow [] [.agg [I a.1, I a.2], .agg [I b.1, I b.2]] [] ⟨Bo (below a b), [], [], []⟩ := by
  by_cases h1 : a.1 < b.1
  · refine call_of_wp tb_spec_edgeBelow rfl ?_
    repeat (first | refine wp_as ?_ | refine wp_ss ?_ | refine wp_rs (by simp [h1]; with_reducible rfl) (by simp; with_reducible rfl) ?_ | refine wp_reg (by simp [h1]; with_reducible rfl) (by simp; with_reducible rfl) ?_ | (refine wp_ct (t := true) ?_ (fun _ => ?_) (fun hh => nomatch hh); focus (simp [h1]; done)) | (refine wp_ct (t := false) ?_ (fun hh => nomatch hh) (fun _ => ?_); focus (simp [h1]; done)) | (refine wp_c (t := true) ?_ (fun _ => ?_) (fun hh => nomatch hh); focus (simp [h1]; done)) | (refine wp_c (t := false) ?_ (fun hh => nomatch hh) (fun _ => ?_); focus (simp [h1]; done)) | refine wp_bs ?_ | refine wp_b ?_ | refine wp_sr ?_ | refine wp_sx ?_ | refine wp_ret' ?_ | refine wp_skip' ?_ | refine wp_exit' ?_)
    simp [if_spec_edgeBelow, below, h1]
  · by_cases h2 : a.1 = b.1
    · refine call_of_wp tb_spec_edgeBelow rfl ?_
      repeat (first | refine wp_as ?_ | refine wp_ss ?_ | refine wp_rs (by simp [h1, h2]; with_reducible rfl) (by simp; with_reducible rfl) ?_ | refine wp_reg (by simp [h1, h2]; with_reducible rfl) (by simp; with_reducible rfl) ?_ | (refine wp_ct (t := true) ?_ (fun _ => ?_) (fun hh => nomatch hh); focus (simp [h1, h2]; done)) | (refine wp_ct (t := false) ?_ (fun hh => nomatch hh) (fun _ => ?_); focus (simp [h1, h2]; done)) | (refine wp_c (t := true) ?_ (fun _ => ?_) (fun hh => nomatch hh); focus (simp [h1, h2]; done)) | (refine wp_c (t := false) ?_ (fun hh => nomatch hh) (fun _ => ?_); focus (simp [h1, h2]; done)) | refine wp_bs ?_ | refine wp_b ?_ | refine wp_sr ?_ | refine wp_sx ?_ | refine wp_ret' ?_ | refine wp_skip' ?_ | refine wp_exit' ?_)
      simp [if_spec_edgeBelow, below, h1, h2]
    · refine call_of_wp tb_spec_edgeBelow rfl ?_
      repeat (first | refine wp_as ?_ | refine wp_ss ?_ | refine wp_rs (by simp [h1, h2]; with_reducible rfl) (by simp; with_reducible rfl) ?_ | refine wp_reg (by simp [h1, h2]; with_reducible rfl) (by simp; with_reducible rfl) ?_ | (refine wp_ct (t := true) ?_ (fun _ => ?_) (fun hh => nomatch hh); focus (simp [h1, h2]; done)) | (refine wp_ct (t := false) ?_ (fun hh => nomatch hh) (fun _ => ?_); focus (simp [h1, h2]; done)) | (refine wp_c (t := true) ?_ (fun _ => ?_) (fun hh => nomatch hh); focus (simp [h1, h2]; done)) | (refine wp_c (t := false) ?_ (fun hh => nomatch hh) (fun _ => ?_); focus (simp [h1, h2]; done)) | refine wp_bs ?_ | refine wp_b ?_ | refine wp_sr ?_ | refine wp_sx ?_ | refine wp_ret' ?_ | refine wp_skip' ?_ | refine wp_exit' ?_)
      simp [if_spec_edgeBelow, below, h1, h2]

theorem Fit.at {es : List (Int × Int)} (h : Fit es) {i : Nat} (hi : i < es.length) : -9223372036854775808 ≤ es[i].1 ∧ es[i].1 < 9223372036854775808 ∧ -9223372036854775808 ≤ es[i].2 ∧ es[i].2 < 9223372036854775808 := h _ (List.getElem_mem hi)

end Go.Idl

namespace Go.Idl

open Go

/-- A list that grew out of none. -/
def nl2 : List (Int × Int) → IV
  | [] => Z
  | e :: es => O2 (e :: es)

@[simp] theorem nl2_nil : nl2 [] = Z := rfl

@[simp] theorem nl2_cons (e : Int × Int) (es : List (Int × Int)) : nl2 (e :: es) = O2 (e :: es) := rfl

end Go.Idl

namespace Go.Idl

open Go

/-- A pair put in before the first one that is not below it. -/
def insE (e : Int × Int) : List (Int × Int) → List (Int × Int)
  | [] => [e]
  | x :: r => if below x e then x :: insE e r else e :: x :: r

theorem insE_at (e : Int × Int) (es : List (Int × Int)) (k : Nat) (hk : k ≤ es.length) (h : ∀ x ∈ es.take k, below x e = true) (hs : ∀ h : k < es.length, below es[k] e = false) :
    insE e es = es.take k ++ [e] ++ es.drop k := by
  induction es generalizing k with
  | nil => simp at hk; subst hk; rfl
  | cons x r ih =>
    cases k with
    | zero =>
      have := hs (by simp)
      simp only [List.getElem_cons_zero] at this
      simp [insE, this]
    | succ k =>
      have h1 := h x (by simp)
      rw [insE, if_pos h1, ih k (by simpa using hk) (fun y hy => h y (by simp [hy])) (fun hh => hs (by simpa using hh))]
      simp

theorem insE_len (e : Int × Int) (es : List (Int × Int)) : (insE e es).length = es.length + 1 := by
  induction es with
  | nil => rfl
  | cons x r ih => rw [insE]; split <;> simp [ih]

theorem insE_mem (e x : Int × Int) (es : List (Int × Int)) : x ∈ insE e es ↔ x = e ∨ x ∈ es := by
  induction es with
  | nil => simp [insE]
  | cons y r ih =>
    rw [insE]; split
    · rw [List.mem_cons, ih, List.mem_cons]
      constructor
      · rintro (h | h | h) <;> simp [h]
      · rintro (h | h | h) <;> simp [h]
    · simp

theorem ev_addEdge (n : Int) (es : List (Int × Int)) (c : Bool) (a b : Int) (hl : es.length ≤ 1000000) :
    Ev tb l_spec_addEdge [] [Gr n es c, I a, I b] [] ⟨OG n (insE (min a b, max a b) es), [], [], []⟩ := by
  obtain ⟨e, he⟩ : ∃ e : Int × Int, e = (min a b, max a b) := ⟨_, rfl⟩
  have he1 : (if b < a then b else a) = e.1 := by rw [he]; simp only; split <;> omega
  have he2 : (if a < b then b else a) = e.2 := by rw [he]; simp only; split <;> omega
  rw [← he]
  have loop : ∀ (m k : Nat), k + m = es.length → (∀ x ∈ es.take k, below x e = true) → wp tb (.loop ic_spec_addEdge_l5) { T := [(3, .bptr 0 0 0), (6, .bptr 0 1 0), (7, .bptr 0 2 0), (8, I k)], loc := [[I n, L2 es c], [I 0, Z], [I e.1, I e.2]], M := [] }
      (fun ex st => ex = .exit 0 ∧ ∃ k : Nat, (k ≤ es.length ∧ (∀ x ∈ es.take k, below x e = true) ∧ (∀ h : k < es.length, below es[k] e = false)) ∧
        st = { T := [(3, .bptr 0 0 0), (6, .bptr 0 1 0), (7, .bptr 0 2 0), (8, I k), (30, Bo false)], loc := [[I n, L2 es c], [I 0, Z], [I e.1, I e.2]], M := [] }) := by
    intro m
    induction m with
    | zero =>
      intro k hk hb
      have h3 : k = es.length := hk
      subst h3
      refine wp_loop ?_
      repeat (first | refine wp_as ?_ | refine wp_ss ?_ | refine wp_rs (by simp; with_reducible rfl) (by simp; with_reducible rfl) ?_ | refine wp_reg (by simp; with_reducible rfl) (by simp; with_reducible rfl) ?_ | (refine wp_ct (t := true) ?_ (fun _ => ?_) (fun hh => nomatch hh); focus (simp; done)) | (refine wp_ct (t := false) ?_ (fun hh => nomatch hh) (fun _ => ?_); focus (simp; done)) | (refine wp_c (t := true) ?_ (fun _ => ?_) (fun hh => nomatch hh); focus (simp; done)) | (refine wp_c (t := false) ?_ (fun hh => nomatch hh) (fun _ => ?_); focus (simp; done)) | refine wp_bs ?_ | refine wp_b ?_ | refine wp_sr ?_ | refine wp_sx ?_ | refine wp_ret' ?_ | refine wp_skip' ?_ | refine wp_exit' ?_)
      exact ⟨rfl, es.length, ⟨Nat.le_refl _, hb, fun h => absurd h (by omega)⟩, rfl⟩
    | succ m ih =>
      intro k hk hb
      have hi2 : k < es.length := by omega
      have w2 : IntKind.i64.wrap ((k : Int) + 1) = ((k + 1 : Nat) : Int) := wrapS (by omega)
      have e1 := ev_lim (ev_edgeBelow es[k] e)
      cases hq : below es[k] e with
      | true =>
        refine wp_loop ?_
        repeat (first | refine wp_as ?_ | refine wp_ss ?_ | refine wp_rs (by simp [hi2, e1, hq, w2]; with_reducible rfl) (by simp; with_reducible rfl) ?_ | refine wp_reg (by simp [hi2, e1, hq, w2]; with_reducible rfl) (by simp; with_reducible rfl) ?_ | (refine wp_ct (t := true) ?_ (fun _ => ?_) (fun hh => nomatch hh); focus (simp [hi2, e1, hq, w2]; done)) | (refine wp_ct (t := false) ?_ (fun hh => nomatch hh) (fun _ => ?_); focus (simp [hi2, e1, hq, w2]; done)) | (refine wp_c (t := true) ?_ (fun _ => ?_) (fun hh => nomatch hh); focus (simp [hi2, e1, hq, w2]; done)) | (refine wp_c (t := false) ?_ (fun hh => nomatch hh) (fun _ => ?_); focus (simp [hi2, e1, hq, w2]; done)) | refine wp_bs ?_ | refine wp_b ?_ | refine wp_sr ?_ | refine wp_sx ?_ | refine wp_ret' ?_ | refine wp_skip' ?_ | refine wp_exit' ?_)
        refine ih (k + 1) (by omega) fun x hx => ?_
        rw [List.take_succ_eq_append_getElem hi2] at hx
        rcases List.mem_append.1 hx with hx | hx
        · exact hb x hx
        · simp at hx; subst hx; exact hq
      | false =>
        refine wp_loop ?_
        repeat (first | refine wp_as ?_ | refine wp_ss ?_ | refine wp_rs (by simp [hi2, e1, hq]; with_reducible rfl) (by simp; with_reducible rfl) ?_ | refine wp_reg (by simp [hi2, e1, hq]; with_reducible rfl) (by simp; with_reducible rfl) ?_ | (refine wp_ct (t := true) ?_ (fun _ => ?_) (fun hh => nomatch hh); focus (simp [hi2, e1, hq]; done)) | (refine wp_ct (t := false) ?_ (fun hh => nomatch hh) (fun _ => ?_); focus (simp [hi2, e1, hq]; done)) | (refine wp_c (t := true) ?_ (fun _ => ?_) (fun hh => nomatch hh); focus (simp [hi2, e1, hq]; done)) | (refine wp_c (t := false) ?_ (fun hh => nomatch hh) (fun _ => ?_); focus (simp [hi2, e1, hq]; done)) | refine wp_bs ?_ | refine wp_b ?_ | refine wp_sr ?_ | refine wp_sx ?_ | refine wp_ret' ?_ | refine wp_skip' ?_ | refine wp_exit' ?_)
        exact ⟨rfl, k, ⟨by omega, hb, fun _ => hq⟩, rfl⟩
  refine call_of_wp tb_spec_addEdge rfl ?_
  repeat (first | refine wp_as ?_ | refine wp_ss ?_ | refine wp_rs (by simp [he1, he2]; with_reducible rfl) (by simp; with_reducible rfl) ?_ | refine wp_reg (by simp [he1, he2]; with_reducible rfl) (by simp; with_reducible rfl) ?_ | (refine wp_ct (t := true) ?_ (fun _ => ?_) (fun hh => nomatch hh); focus (simp [he1, he2]; done)) | (refine wp_ct (t := false) ?_ (fun hh => nomatch hh) (fun _ => ?_); focus (simp [he1, he2]; done)) | (refine wp_c (t := true) ?_ (fun _ => ?_) (fun hh => nomatch hh); focus (simp [he1, he2]; done)) | (refine wp_c (t := false) ?_ (fun hh => nomatch hh) (fun _ => ?_); focus (simp [he1, he2]; done)) | refine wp_bs ?_ | refine wp_b ?_ | refine wp_sr ?_ | refine wp_sx ?_ | refine wp_ret' ?_ | refine wp_skip' ?_ | refine wp_exit' ?_)
  refine wp_imp (loop es.length 0 (by simp) (by simp)) ?_
  rintro ex st ⟨rfl, k, ⟨hk, hb, hs⟩, rfl⟩
  rw [insE_at e es k hk hb hs]
  try simp only [if_true]
  have hT : es.take es.length = es := List.take_of_length_le (Nat.le_refl _)
  have hT2 : (es.drop k).take (es.length - k) = es.drop k := List.take_of_length_le (by simp)
  have hT3 : (es.take k).take k = es.take k := by rw [List.take_take, Nat.min_self]
  have hl1 : k ≤ 274877906943 := by omega
  have hl2 : k ≤ 274877906944 := by omega
  have hl3 : k + 1 ≤ 274877906944 := by omega
  have hl4 : k + 1 + (es.length - k) ≤ 274877906944 := by omega
  have hT4 : (es.take k ++ [(e.1, e.2)]).take (k + 1) = es.take k ++ [(e.1, e.2)] := List.take_of_length_le (by simp; omega)
  have hmin : min k es.length = k := by omega
  repeat (first | refine wp_as ?_ | refine wp_ss ?_ | refine wp_rs (by simp [hk, hT, hT2, hT3, hl1, hl2, hl3, hl4, hT4, hmin]; with_reducible rfl) (by simp; with_reducible rfl) ?_ | refine wp_reg (by simp [hk, hT, hT2, hT3, hl1, hl2, hl3, hl4, hT4, hmin]; with_reducible rfl) (by simp; with_reducible rfl) ?_ | (refine wp_ct (t := true) ?_ (fun _ => ?_) (fun hh => nomatch hh); focus (simp [hk, hT, hT2, hT3, hl1, hl2, hl3, hl4, hT4, hmin]; done)) | (refine wp_ct (t := false) ?_ (fun hh => nomatch hh) (fun _ => ?_); focus (simp [hk, hT, hT2, hT3, hl1, hl2, hl3, hl4, hT4, hmin]; done)) | (refine wp_c (t := true) ?_ (fun _ => ?_) (fun hh => nomatch hh); focus (simp [hk, hT, hT2, hT3, hl1, hl2, hl3, hl4, hT4, hmin]; done)) | (refine wp_c (t := false) ?_ (fun hh => nomatch hh) (fun _ => ?_); focus (simp [hk, hT, hT2, hT3, hl1, hl2, hl3, hl4, hT4, hmin]; done)) | refine wp_bs ?_ | refine wp_b ?_ | refine wp_sr ?_ | refine wp_sx ?_ | refine wp_ret' ?_ | refine wp_skip' ?_ | refine wp_exit' ?_)
  refine wp_ra (by simp [hk, hT, hT2, hT3, hl1, hl2, hl3, hl4, hT4, hmin]; with_reducible rfl) (by simp; with_reducible rfl) ?_ ?_
  · intro p hp
    simp only [List.mem_cons, List.not_mem_nil, or_false] at hp
    rcases hp with rfl | rfl | rfl | rfl | rfl | rfl | rfl | rfl | rfl | rfl | rfl
    · exact ⟨_, by simp [hk, hT, hT2, hT3, hl1, hl2, hl3, hl4, hT4, hmin]; with_reducible rfl, by simp⟩
    · exact ⟨_, by simp [hk, hT, hT2, hT3, hl1, hl2, hl3, hl4, hT4, hmin]; with_reducible rfl, by simp⟩
    · exact ⟨_, by simp [hk, hT, hT2, hT3, hl1, hl2, hl3, hl4, hT4, hmin]; with_reducible rfl, by simp⟩
    · exact ⟨_, by simp [hk, hT, hT2, hT3, hl1, hl2, hl3, hl4, hT4, hmin]; with_reducible rfl, by simp⟩
    · exact ⟨_, by simp [hk, hT, hT2, hT3, hl1, hl2, hl3, hl4, hT4, hmin]; with_reducible rfl, by simp⟩
    · exact ⟨_, by simp [hk, hT, hT2, hT3, hl1, hl2, hl3, hl4, hT4, hmin]; with_reducible rfl, by simp⟩
    · exact ⟨_, by simp [hk, hT, hT2, hT3, hl1, hl2, hl3, hl4, hT4, hmin]; with_reducible rfl, by simp⟩
    · exact ⟨_, by simp [hk, hT, hT2, hT3, hl1, hl2, hl3, hl4, hT4, hmin]; with_reducible rfl, by simp⟩
    · exact ⟨_, by simp [hk, hT, hT2, hT3, hl1, hl2, hl3, hl4, hT4, hmin]; with_reducible rfl, by simp⟩
    · exact ⟨_, by simp [hk, hT, hT2, hT3, hl1, hl2, hl3, hl4, hT4, hmin]; with_reducible rfl, by simp⟩
    · exact ⟨_, by simp [hk, hT, hT2, hT3, hl1, hl2, hl3, hl4, hT4, hmin]; with_reducible rfl, by simp⟩
  repeat (first | refine wp_as ?_ | refine wp_ss ?_ | refine wp_rs (by simp; with_reducible rfl) (by simp; with_reducible rfl) ?_ | refine wp_reg (by simp; with_reducible rfl) (by simp; with_reducible rfl) ?_ | (refine wp_ct (t := true) ?_ (fun _ => ?_) (fun hh => nomatch hh); focus (simp; done)) | (refine wp_ct (t := false) ?_ (fun hh => nomatch hh) (fun _ => ?_); focus (simp; done)) | (refine wp_c (t := true) ?_ (fun _ => ?_) (fun hh => nomatch hh); focus (simp; done)) | (refine wp_c (t := false) ?_ (fun hh => nomatch hh) (fun _ => ?_); focus (simp; done)) | refine wp_bs ?_ | refine wp_b ?_ | refine wp_sr ?_ | refine wp_sx ?_ | refine wp_ret' ?_ | refine wp_skip' ?_ | refine wp_exit' ?_)
  simp [if_spec_addEdge]

end Go.Idl

namespace Go.Idl

/-- All falling lists. -/
def allD (p : List Int → Bool) : Nat → Nat → List Int → Bool
  | 0, _, acc => p acc.reverse
  | m + 1, t, acc => (List.range (t + 1)).all fun x => allD p m x ((x : Int) :: acc)

theorem allD_ok (p : List Int → Bool) : ∀ (m t : Nat) (acc l : List Int), allD p m t acc = true → l.length = m → Desc l → (∀ x ∈ l, 0 ≤ x ∧ x ≤ t) → p (acc.reverse ++ l) = true
  | 0, t, acc, l, h, hl, hd, hb => by
    have : l = [] := List.length_eq_zero_iff.1 hl
    subst this
    simpa [allD] using h
  | m + 1, t, acc, l, h, hl, hd, hb => by
    cases l with
    | nil => simp at hl
    | cons x r =>
      have hx := hb x (by simp)
      have hd' := List.pairwise_cons.1 hd
      obtain ⟨k, rfl⟩ := Int.eq_ofNat_of_zero_le hx.1
      simp only [allD, List.all_eq_true, List.mem_range] at h
      have h1 := h k (by omega)
      have := allD_ok p m k ((k : Int) :: acc) r h1 (by simpa using hl) hd'.2 (fun y hy => ⟨(hb y (by simp [hy])).1, hd'.1 y hy⟩)
      simpa using this

def slS (s : List Int) : List Int := (List.range s.length).map fun i => slk s (i + 1)

def compS (s : List Int) : List Int := (s.map fun x => (s.length : Int) - 1 - x).reverse

theorem slacks_S (d : List Int) : slacks d = slS (fall d) := by rw [slacks, slS, fall_len]

theorem comp_map (d : List Int) : comp d = d.map fun x => (d.length : Int) - 1 - x := by
  refine List.ext_getElem (by simp [comp]) fun i h1 h2 => ?_
  simp [comp] at h1 ⊢
  rw [List.getElem?_eq_getElem h1]; rfl

theorem fall_comp (d : List Int) : fall (comp d) = compS (fall d) := by
  symm
  refine fall_unique ?_ ?_
  · rw [compS, Desc, List.pairwise_reverse, List.pairwise_map]
    exact (fall_desc d).imp fun h => by omega
  · rw [comp_map, compS, fall_len]
    exact (List.reverse_perm _).trans ((fall_perm d).map _)

end Go.Idl

namespace Go.Idl

/-- A sum over a list. -/
def S {α : Type} (l : List α) (f : α → Int) : Int := (l.map f).sum

@[simp] theorem S_nil {α : Type} (f : α → Int) : S [] f = 0 := rfl

@[simp] theorem S_cons {α : Type} (a : α) (l : List α) (f : α → Int) : S (a :: l) f = f a + S l f := by simp [S]

theorem row_mem_iff (a : Nat) : ∀ (m b : Nat) (e : Int × Int), e ∈ row a b m ↔ e.1 = a ∧ (b : Int) ≤ e.2 ∧ e.2 < b + m
  | 0, b, e => by simp [row] <;> omega
  | m + 1, b, e => by
    rw [row, List.mem_cons, row_mem_iff a m (b + 1) e]
    constructor
    · rintro (rfl | h)
      · simp; omega
      · omega
    · intro h
      by_cases h2 : e.2 = b
      · exact .inl (Prod.ext h.1 h2)
      · exact .inr (by omega)

theorem prsF_mem_iff : ∀ (m a : Nat) (e : Int × Int), e ∈ prsF a m ↔ (a : Int) ≤ e.1 ∧ e.1 < e.2 ∧ e.2 < a + m
  | 0, a, e => by simp [prsF]; omega
  | m + 1, a, e => by
    rw [prsF, List.mem_append, row_mem_iff, prsF_mem_iff m (a + 1) e]
    omega

theorem mem_prs {n : Nat} {e : Int × Int} : e ∈ prs n ↔ 0 ≤ e.1 ∧ e.1 < e.2 ∧ e.2 < n := by
  rw [prs, prsF_mem_iff]; omega

end Go.Idl

namespace Go.Idl

open Go

def rI (N : Nat) : List Int := (List.range N).map fun v : Nat => (v : Int)

theorem rI_len (N : Nat) : (rI N).length = N := by simp [rI]

theorem mem_rI {N : Nat} {x : Int} : x ∈ rI N ↔ 0 ≤ x ∧ x < N := by
  simp only [rI, List.mem_map, List.mem_range]
  exact ⟨fun ⟨v, h1, h2⟩ => by omega, fun h => ⟨x.toNat, by omega, by omega⟩⟩

end Go.Idl

namespace Go.Idl

open Go

theorem edgesIn_ins {N : Nat} {es : List (Int × Int)} (h : EdgesIn N es) {a b : Int} (ha : 0 ≤ a ∧ a < N) (hb : 0 ≤ b ∧ b < N) : EdgesIn N (insE (min a b, max a b) es) := fun e he => by
  rcases (insE_mem _ _ _).1 he with rfl | he
  · simp only; omega
  · exact h e he

end Go.Idl

namespace Go.Idl

open Go

theorem rI_succ (i : Nat) : rI (i + 1) = rI i ++ [(i : Int)] := by simp [rI, List.range_succ]

theorem mv_to (n : Nat) (hn : n ≤ 7) (es : List (Int × Int)) (c : Bool) (B : Boxes) (Ms : List Boxes) : ∀ (m i : Nat), i + m = n →
    wp tb (.loop ic_spec_moved_l6) { T := [(0, .bptr 0 0 0), (3, .bptr (Ms.length + 1) 0 0), (4, .bptr (Ms.length + 1) 1 0), (5, O (rI i)), (6, I i)], loc := [[I n, L2 es c], [I 0, Z]], M := B :: Ms }
      (fun ex st => ex = .exit 0 ∧ st = { T := [(0, .bptr 0 0 0), (3, .bptr (Ms.length + 1) 0 0), (4, .bptr (Ms.length + 1) 1 0), (5, O (rI n)), (6, I n), (16, Bo false)], loc := [[I n, L2 es c], [I 0, Z]], M := B :: Ms }) := by
  intro m
  induction m with
  | zero =>
    intro i hi
    have h3 : i = n := hi
    subst h3
    refine wp_loop ?_
    repeat (first | refine wp_as ?_ | refine wp_ss ?_ | refine wp_rs (by simp; with_reducible rfl) (by simp; with_reducible rfl) ?_ | refine wp_reg (by simp; with_reducible rfl) (by simp; with_reducible rfl) ?_ | (refine wp_ct (t := true) ?_ (fun _ => ?_) (fun hh => nomatch hh); focus (simp; done)) | (refine wp_ct (t := false) ?_ (fun hh => nomatch hh) (fun _ => ?_); focus (simp; done)) | (refine wp_c (t := true) ?_ (fun _ => ?_) (fun hh => nomatch hh); focus (simp; done)) | (refine wp_c (t := false) ?_ (fun hh => nomatch hh) (fun _ => ?_); focus (simp; done)) | refine wp_bs ?_ | refine wp_b ?_ | refine wp_sr ?_ | refine wp_sx ?_ | refine wp_ret' ?_ | refine wp_skip' ?_ | refine wp_exit' ?_)
    exact ⟨rfl, rfl⟩
  | succ m ih =>
    intro i hi
    have hi2 : i < n := by omega
    have w2 : IntKind.i64.wrap ((i : Int) + 1) = ((i + 1 : Nat) : Int) := wrapS (by omega)
    have hn2 := ih (i + 1) (by omega)
    rw [rI_succ] at hn2
    have hal := rI_len i
    generalize rI i = A at *
    have hl1 : i + 1 ≤ 274877906944 := by omega
    have hT : A.take i = A := List.take_of_length_le (by omega)
    refine wp_loop ?_
    repeat (first | refine wp_as ?_ | refine wp_ss ?_ | refine wp_rs (by simp [hi2, w2, hal, hl1, hT]; with_reducible rfl) (by simp; with_reducible rfl) ?_ | refine wp_reg (by simp [hi2, w2, hal, hl1, hT]; with_reducible rfl) (by simp; with_reducible rfl) ?_ | (refine wp_ct (t := true) ?_ (fun _ => ?_) (fun hh => nomatch hh); focus (simp [hi2, w2, hal, hl1, hT]; done)) | (refine wp_ct (t := false) ?_ (fun hh => nomatch hh) (fun _ => ?_); focus (simp [hi2, w2, hal, hl1, hT]; done)) | (refine wp_c (t := true) ?_ (fun _ => ?_) (fun hh => nomatch hh); focus (simp [hi2, w2, hal, hl1, hT]; done)) | (refine wp_c (t := false) ?_ (fun hh => nomatch hh) (fun _ => ?_); focus (simp [hi2, w2, hal, hl1, hT]; done)) | refine wp_bs ?_ | refine wp_b ?_ | refine wp_sr ?_ | refine wp_sx ?_ | refine wp_ret' ?_ | refine wp_skip' ?_ | refine wp_exit' ?_)
    exact hn2

theorem mv_sw (code : List Int) (c0 : Bool) (hc : CodeOk code) (n : Nat) (hn : n ≤ 7) (es : List (Int × Int)) (c : Bool) (bs : Boxes) (Ms : List Boxes) : ∀ (m i cnt : Nat) (to : List Int), i + m = n → to.length = n → (∀ x ∈ to, 0 ≤ x ∧ x < n) → cnt + m ≤ 900000 →
    wp tb (.loop ic_spec_moved_l14) { T := [(0, .bptr 0 0 0), (3, .bptr (Ms.length + 1) 0 0), (4, .bptr (Ms.length + 1) 1 0), (5, O to), (7, I i)], loc := [[I n, L2 es c], [I 0, Z]], M := (R code c0 cnt :: bs) :: Ms }
      (fun ex st => ex = .exit 2 ∧ ∃ (to : List Int) (k : Nat), (to.length = n ∧ (∀ x ∈ to, 0 ≤ x ∧ x < n) ∧ k ≤ cnt + m) ∧ st = { T := [(0, .bptr 0 0 0), (3, .bptr (Ms.length + 1) 0 0), (4, .bptr (Ms.length + 1) 1 0), (5, O to), (7, I n), (26, Bo false)], loc := [[I n, L2 es c], [I 0, Z]], M := (R code c0 k :: bs) :: Ms }) := by
  intro m
  induction m with
  | zero =>
    intro i cnt to hi hl hb hk
    have h3 : i = n := hi
    subst h3
    refine wp_loop ?_
    repeat (first | refine wp_as ?_ | refine wp_ss ?_ | refine wp_rs (by simp; with_reducible rfl) (by simp; with_reducible rfl) ?_ | refine wp_reg (by simp; with_reducible rfl) (by simp; with_reducible rfl) ?_ | (refine wp_ct (t := true) ?_ (fun _ => ?_) (fun hh => nomatch hh); focus (simp; done)) | (refine wp_ct (t := false) ?_ (fun hh => nomatch hh) (fun _ => ?_); focus (simp; done)) | (refine wp_c (t := true) ?_ (fun _ => ?_) (fun hh => nomatch hh); focus (simp; done)) | (refine wp_c (t := false) ?_ (fun hh => nomatch hh) (fun _ => ?_); focus (simp; done)) | refine wp_bs ?_ | refine wp_b ?_ | refine wp_sr ?_ | refine wp_sx ?_ | refine wp_ret' ?_ | refine wp_skip' ?_ | refine wp_exit' ?_)
    exact ⟨rfl, to, cnt, ⟨hl, hb, by omega⟩, rfl⟩
  | succ m ih =>
    intro i cnt to hi hl hb hk
    have hi2 : i < n := by omega
    have hil : i < to.length := by omega
    obtain ⟨v, k, hv, hk2, e1⟩ := pick' code c0 hc cnt (by omega) (n : Int) (by omega) bs (Ms ++ [[[I n, L2 es c], [I 0, Z]]])
    have hv := hv (by omega)
    have hvn : v < n := by omega
    have hvl : v < to.length := by omega
    have w2 : IntKind.i64.wrap ((i : Int) + 1) = ((i + 1 : Nat) : Int) := wrapS (by omega)
    have hi3 := hb _ (List.getElem_mem hil)
    have hv3 := hb _ (List.getElem_mem hvl)
    have hn2 := ih (i + 1) k ((to.set i to[v]).set v to[i]) (by omega) (by simpa using hl) (fun x hx => by
      rcases List.mem_or_eq_of_mem_set hx with hx | rfl
      · rcases List.mem_or_eq_of_mem_set hx with hx | rfl
        · exact hb x hx
        · exact hv3
      · exact hi3) (by omega)
    refine wp_loop ?_
    repeat (first | refine wp_as ?_ | refine wp_ss ?_ | refine wp_rs (by simp [hi2, hil, hvn, hvl, hl, e1, w2]; with_reducible rfl) (by simp; with_reducible rfl) ?_ | refine wp_reg (by simp [hi2, hil, hvn, hvl, hl, e1, w2]; with_reducible rfl) (by simp; with_reducible rfl) ?_ | (refine wp_ct (t := true) ?_ (fun _ => ?_) (fun hh => nomatch hh); focus (simp [hi2, hil, hvn, hvl, hl, e1, w2]; done)) | (refine wp_ct (t := false) ?_ (fun hh => nomatch hh) (fun _ => ?_); focus (simp [hi2, hil, hvn, hvl, hl, e1, w2]; done)) | (refine wp_c (t := true) ?_ (fun _ => ?_) (fun hh => nomatch hh); focus (simp [hi2, hil, hvn, hvl, hl, e1, w2]; done)) | (refine wp_c (t := false) ?_ (fun hh => nomatch hh) (fun _ => ?_); focus (simp [hi2, hil, hvn, hvl, hl, e1, w2]; done)) | refine wp_bs ?_ | refine wp_b ?_ | refine wp_sr ?_ | refine wp_sx ?_ | refine wp_ret' ?_ | refine wp_skip' ?_ | refine wp_exit' ?_)
    refine wp_imp hn2 ?_
    rintro ex st ⟨rfl, to', k', ⟨h1, h2, h3⟩, rfl⟩
    exact ⟨rfl, to', k', ⟨h1, h2, by omega⟩, rfl⟩

theorem mv_ed (n : Nat) (hn : n ≤ 7) (es : List (Int × Int)) (c : Bool) (hes : EdgesIn n es) (hel : es.length ≤ 100) (to : List Int) (hl : to.length = n) (hb : ∀ x ∈ to, 0 ≤ x ∧ x < n) (M : List Boxes) (L : Nat) (hL : L = M.length) : ∀ (m i : Nat) (out : List (Int × Int)), i + m = es.length → out.length = i → EdgesIn n out →
    wp tb (.loop ic_spec_moved_l20) { T := [(3, .bptr L 0 0), (4, .bptr L 1 0), (5, O to), (10, .bptr L 2 0), (11, I i)], loc := [[I n, L2 es c], [I 0, Z], [I n, O2 out]], M := M }
      (fun ex st => ex = .exit 4 ∧ ∃ out : List (Int × Int), (out.length = es.length ∧ EdgesIn n out) ∧ st = { T := [(3, .bptr L 0 0), (4, .bptr L 1 0), (5, O to), (10, .bptr L 2 0), (11, I es.length), (56, Bo false)], loc := [[I n, L2 es c], [I 0, Z], [I n, O2 out]], M := M }) := by
  subst hL
  intro m
  induction m with
  | zero =>
    intro i out hi ho hin
    have h3 : i = es.length := hi
    subst h3
    refine wp_loop ?_
    repeat (first | refine wp_as ?_ | refine wp_ss ?_ | refine wp_rs (by simp; with_reducible rfl) (by simp; with_reducible rfl) ?_ | refine wp_reg (by simp; with_reducible rfl) (by simp; with_reducible rfl) ?_ | (refine wp_ct (t := true) ?_ (fun _ => ?_) (fun hh => nomatch hh); focus (simp; done)) | (refine wp_ct (t := false) ?_ (fun hh => nomatch hh) (fun _ => ?_); focus (simp; done)) | (refine wp_c (t := true) ?_ (fun _ => ?_) (fun hh => nomatch hh); focus (simp; done)) | (refine wp_c (t := false) ?_ (fun hh => nomatch hh) (fun _ => ?_); focus (simp; done)) | refine wp_bs ?_ | refine wp_b ?_ | refine wp_sr ?_ | refine wp_sx ?_ | refine wp_ret' ?_ | refine wp_skip' ?_ | refine wp_exit' ?_)
    exact ⟨rfl, out, ⟨ho, hin⟩, rfl⟩
  | succ m ih =>
    intro i out hi ho hin
    have hi2 : i < es.length := by omega
    have he := hes _ (List.getElem_mem hi2)
    obtain ⟨p, hp⟩ := Int.eq_ofNat_of_zero_le he.1
    obtain ⟨q, hq⟩ := Int.eq_ofNat_of_zero_le he.2.2.1
    have hpn : p < n := by omega
    have hqn : q < n := by omega
    have hpl : p < to.length := by omega
    have hql : q < to.length := by omega
    have w2 : IntKind.i64.wrap ((i : Int) + 1) = ((i + 1 : Nat) : Int) := wrapS (by omega)
    have e1 := fun cc => ev_lim (ev_addEdge n out cc to[p] to[q] (by omega))
    have hot : out.take out.length = out := List.take_of_length_le (Nat.le_refl _)
    have hn2 := ih (i + 1) (insE (min to[p] to[q], max to[p] to[q]) out) (by omega) (by rw [insE_len, ho]) (edgesIn_ins hin (hb _ (List.getElem_mem hpl)) (hb _ (List.getElem_mem hql)))
    refine wp_loop ?_
    repeat (first | refine wp_as ?_ | refine wp_ss ?_ | refine wp_rs (by simp [hi2, hp, hq, hpn, hqn, hpl, hql, hl, w2, e1, hot]; with_reducible rfl) (by simp; with_reducible rfl) ?_ | refine wp_reg (by simp [hi2, hp, hq, hpn, hqn, hpl, hql, hl, w2, e1, hot]; with_reducible rfl) (by simp; with_reducible rfl) ?_ | (refine wp_ct (t := true) ?_ (fun _ => ?_) (fun hh => nomatch hh); focus (simp [hi2, hp, hq, hpn, hqn, hpl, hql, hl, w2, e1, hot]; done)) | (refine wp_ct (t := false) ?_ (fun hh => nomatch hh) (fun _ => ?_); focus (simp [hi2, hp, hq, hpn, hqn, hpl, hql, hl, w2, e1, hot]; done)) | (refine wp_c (t := true) ?_ (fun _ => ?_) (fun hh => nomatch hh); focus (simp [hi2, hp, hq, hpn, hqn, hpl, hql, hl, w2, e1, hot]; done)) | (refine wp_c (t := false) ?_ (fun hh => nomatch hh) (fun _ => ?_); focus (simp [hi2, hp, hq, hpn, hqn, hpl, hql, hl, w2, e1, hot]; done)) | refine wp_bs ?_ | refine wp_b ?_ | refine wp_sr ?_ | refine wp_sx ?_ | refine wp_ret' ?_ | refine wp_skip' ?_ | refine wp_exit' ?_)
    exact hn2

theorem ev_moved (code : List Int) (c0 : Bool) (hc : CodeOk code) (cnt : Nat) (hcn : cnt ≤ 80000) (n : Nat) (hn : n ≤ 7) (es : List (Int × Int)) (c : Bool) (hes : EdgesIn n es) (hel : es.length ≤ 100) (bs : Boxes) (Ms : List Boxes) :
    ∃ (out : List (Int × Int)) (k : Nat), out.length = es.length ∧ EdgesIn n out ∧ k ≤ cnt + 10 ∧
      limF tb l_spec_moved [] [.bptr 0 0 0, Gr n es c] ((R code c0 cnt :: bs) :: Ms) = some ⟨OG n out, [], (R code c0 k :: bs) :: Ms, []⟩ := by
  suffices hh : ∃ r, (∃ (out : List (Int × Int)) (k : Nat), out.length = es.length ∧ EdgesIn n out ∧ k ≤ cnt + 10 ∧ r = ⟨OG n out, [], (R code c0 k :: bs) :: Ms, []⟩) ∧ Ev tb l_spec_moved [] [.bptr 0 0 0, Gr n es c] ((R code c0 cnt :: bs) :: Ms) r by
    obtain ⟨r, ⟨out, k, q1, q2, q3, rfl⟩, q4⟩ := hh
    exact ⟨out, k, q1, q2, q3, ev_lim q4⟩
  refine call_ex tb_spec_moved rfl ?_
  repeat (first | refine wp_as ?_ | refine wp_ss ?_ | refine wp_rs (by simp; with_reducible rfl) (by simp; with_reducible rfl) ?_ | refine wp_reg (by simp; with_reducible rfl) (by simp; with_reducible rfl) ?_ | (refine wp_ct (t := true) ?_ (fun _ => ?_) (fun hh => nomatch hh); focus (simp; done)) | (refine wp_ct (t := false) ?_ (fun hh => nomatch hh) (fun _ => ?_); focus (simp; done)) | (refine wp_c (t := true) ?_ (fun _ => ?_) (fun hh => nomatch hh); focus (simp; done)) | (refine wp_c (t := false) ?_ (fun hh => nomatch hh) (fun _ => ?_); focus (simp; done)) | refine wp_bs ?_ | refine wp_b ?_ | refine wp_sr ?_ | refine wp_sx ?_ | refine wp_ret' ?_ | refine wp_skip' ?_ | refine wp_exit' ?_)
  refine wp_imp (mv_to n hn es c (R code c0 cnt :: bs) Ms n 0 (by omega)) ?_
  rintro ex st ⟨rfl, rfl⟩
  simp only [if_true]
  repeat (first | refine wp_as ?_ | refine wp_ss ?_ | refine wp_rs (by simp; with_reducible rfl) (by simp; with_reducible rfl) ?_ | refine wp_reg (by simp; with_reducible rfl) (by simp; with_reducible rfl) ?_ | (refine wp_ct (t := true) ?_ (fun _ => ?_) (fun hh => nomatch hh); focus (simp; done)) | (refine wp_ct (t := false) ?_ (fun hh => nomatch hh) (fun _ => ?_); focus (simp; done)) | (refine wp_c (t := true) ?_ (fun _ => ?_) (fun hh => nomatch hh); focus (simp; done)) | (refine wp_c (t := false) ?_ (fun hh => nomatch hh) (fun _ => ?_); focus (simp; done)) | refine wp_bs ?_ | refine wp_b ?_ | refine wp_sr ?_ | refine wp_sx ?_ | refine wp_ret' ?_ | refine wp_skip' ?_ | refine wp_exit' ?_)
  refine wp_imp (mv_sw code c0 hc n hn es c bs Ms n 0 cnt (rI n) (by omega) (rI_len n) (fun x hx => mem_rI.1 hx) (by omega)) ?_
  rintro ex st ⟨rfl, to, k, ⟨h1, h2, h3⟩, rfl⟩
  simp only [if_true]
  repeat (first | refine wp_as ?_ | refine wp_ss ?_ | refine wp_rs (by simp; with_reducible rfl) (by simp; with_reducible rfl) ?_ | refine wp_reg (by simp; with_reducible rfl) (by simp; with_reducible rfl) ?_ | (refine wp_ct (t := true) ?_ (fun _ => ?_) (fun hh => nomatch hh); focus (simp; done)) | (refine wp_ct (t := false) ?_ (fun hh => nomatch hh) (fun _ => ?_); focus (simp; done)) | (refine wp_c (t := true) ?_ (fun _ => ?_) (fun hh => nomatch hh); focus (simp; done)) | (refine wp_c (t := false) ?_ (fun hh => nomatch hh) (fun _ => ?_); focus (simp; done)) | refine wp_bs ?_ | refine wp_b ?_ | refine wp_sr ?_ | refine wp_sx ?_ | refine wp_ret' ?_ | refine wp_skip' ?_ | refine wp_exit' ?_)
  refine wp_imp (mv_ed n hn es c hes hel to h1 h2 ((R code c0 k :: bs) :: Ms) (Ms.length + 1) (by simp) es.length 0 [] (by simp) rfl (fun e he => by simp at he)) ?_
  rintro ex st ⟨rfl, out, ⟨h4, h5⟩, rfl⟩
  simp only [if_true]
  have hot : out.take out.length = out := List.take_of_length_le (Nat.le_refl _)
  repeat (first | refine wp_as ?_ | refine wp_ss ?_ | refine wp_rs (by simp [hot]; with_reducible rfl) (by simp; with_reducible rfl) ?_ | refine wp_reg (by simp [hot]; with_reducible rfl) (by simp; with_reducible rfl) ?_ | (refine wp_ct (t := true) ?_ (fun _ => ?_) (fun hh => nomatch hh); focus (simp [hot]; done)) | (refine wp_ct (t := false) ?_ (fun hh => nomatch hh) (fun _ => ?_); focus (simp [hot]; done)) | (refine wp_c (t := true) ?_ (fun _ => ?_) (fun hh => nomatch hh); focus (simp [hot]; done)) | (refine wp_c (t := false) ?_ (fun hh => nomatch hh) (fun _ => ?_); focus (simp [hot]; done)) | refine wp_bs ?_ | refine wp_b ?_ | refine wp_sr ?_ | refine wp_sx ?_ | refine wp_ret' ?_ | refine wp_skip' ?_ | refine wp_exit' ?_)
  refine ⟨.inr rfl, _, ⟨out, k, h4, h5, by omega, rfl⟩, ?_⟩
  simp [if_spec_moved]

end Go.Idl

namespace Go.Idl

def splS (s : List Int) : Int := if s.length = 0 then 0 else ((slS s).getD (durf s - 1) 0).tdiv 2

def chkP (s : List Int) : Bool := !(decide (s.sum % 2 = 0) && noneNeg (slS s)) || (noneNeg (slS (compS s)) && decide (splS (compS s) = splS s))

set_option maxRecDepth 100000 in
theorem chkP_all : (List.range 8).all (fun n => allD chkP n (n - 1) []) = true := by kernel_rfl

theorem comp_sum (d : List Int) : (comp d).sum = (d.length : Int) * ((d.length : Int) - 1) - d.sum := by
  rw [comp_map]
  generalize (d.length : Int) - 1 = m
  have : ∀ l : List Int, (l.map fun x => m - x).sum = l.length * m - l.sum := by
    intro l
    induction l with
    | nil => simp
    | cons x r ih =>
      rw [List.map_cons, List.sum_cons, ih, List.sum_cons, List.length_cons]
      have : ((r.length + 1 : Nat) : Int) * m = (r.length : Int) * m + m := by rw [Int.natCast_add, Int.add_mul]; simp
      omega
  exact this d

theorem splitt_S {d : List Int} (hg : graphic d = true) : splitt d = splS (fall d) := by
  rw [splitt, hg, if_pos rfl, splS, fall_len, slacks_S]

theorem splLaw (d : List Int) (hg : graphic d = true) : splitt (comp d) = splitt d ∧ valid (comp d) = true := by
  have hv : valid d = true := by simp only [graphic, Bool.and_eq_true] at hg; exact hg.1.1
  have h1 := (valid_few hv).1
  have h2 := valid_mem hv
  have hc := List.all_eq_true.1 chkP_all d.length (List.mem_range.2 (by omega))
  have h3 := allD_ok chkP d.length (d.length - 1) [] (fall d) hc (fall_len d) (fall_desc d) (fun x hx => by
    have := h2 x (fall_mem.1 hx)
    omega)
  have hg' := hg
  simp only [graphic, hv, Bool.true_and, Bool.and_eq_true, decide_eq_true_eq] at hg'
  have hg2 : noneNeg (slS (fall d)) = true := by rw [← slacks_S]; exact hg'.2
  simp only [List.reverse_nil, List.nil_append, chkP, fall_sum, hg'.1, hg2, decide_true, Bool.and_self, Bool.not_true, Bool.false_or, Bool.and_eq_true, decide_eq_true_eq] at h3
  have hcv := comp_valid hv
  have hev : (d.length : Int) * ((d.length : Int) - 1) % 2 = 0 := by
    have h : (d.length : Int) % 2 = 0 ∨ (d.length : Int) % 2 = 1 := by omega
    rcases h with h | h
    · rw [Int.mul_emod, h]; simp
    · have h2 : ((d.length : Int) - 1) % 2 = 0 := by omega
      rw [Int.mul_emod, h2]; simp
  have hcs := comp_sum d
  have hcg : graphic (comp d) = true := by
    rw [graphic, hcv]
    have : (comp d).sum % 2 = 0 := by omega
    simp only [this, decide_true, Bool.true_and]
    have h4 := h3.1
    rw [← fall_comp, ← slacks_S] at h4
    exact h4
  refine ⟨?_, hcv⟩
  rw [splitt_S hcg, splitt_S hg, fall_comp]
  exact of_decide_eq_true h3.2

end Go.Idl

namespace Go.Idl

open Go

theorem prs_le21 : ∀ n, n ≤ 7 → (prs n).length ≤ 21 := by decide +kernel

theorem sp_in (h w : Nat) (hh : h ≤ 3) (h1 : 1 ≤ h) (hw : w ≤ 4) (t : List (List Int)) (c : Bool) (ht : MM h w t) : ∀ (m i : Nat) (acc : List (Int × Int)) (Bx : Boxes), i + m = (prs (h + w)).length → acc.Sublist ((prs (h + w)).take i) →
    wp tb (.loop ic_spec_splitGraph_l9) { T := [(0, TL t c), (2, .bptr 0 0 0), (3, .bptr 0 1 0), (4, O2 (prs (h + w))), (5, I i)], loc := [I 0, Z] :: [I ((h : Int) + w), O2 acc] :: Bx, M := [] }
      (fun ex st => ex = .exit 0 ∧ ∃ (acc : List (Int × Int)) (Bx : Boxes), acc.Sublist (prs (h + w)) ∧ st = { T := [(0, TL t c), (2, .bptr 0 0 0), (3, .bptr 0 1 0), (4, O2 (prs (h + w))), (5, I (prs (h + w)).length), (22, Bo false)], loc := [I 0, Z] :: [I ((h : Int) + w), O2 acc] :: Bx, M := [] }) := by
  have hpl := prs_le21 (h + w) (by omega)
  have htl := ht.1
  intro m
  induction m with
  | zero =>
    intro i acc Bx hi hs
    have h3 : i = (prs (h + w)).length := hi
    subst h3
    rw [List.take_length] at hs
    refine wp_loop ?_
    repeat (first | refine wp_as ?_ | refine wp_ss ?_ | refine wp_rs (by simp; with_reducible rfl) (by simp; with_reducible rfl) ?_ | refine wp_reg (by simp; with_reducible rfl) (by simp; with_reducible rfl) ?_ | (refine wp_ct (t := true) ?_ (fun _ => ?_) (fun hh => nomatch hh); focus (simp; done)) | (refine wp_ct (t := false) ?_ (fun hh => nomatch hh) (fun _ => ?_); focus (simp; done)) | (refine wp_c (t := true) ?_ (fun _ => ?_) (fun hh => nomatch hh); focus (simp; done)) | (refine wp_c (t := false) ?_ (fun hh => nomatch hh) (fun _ => ?_); focus (simp; done)) | refine wp_bs ?_ | refine wp_b ?_ | refine wp_sr ?_ | refine wp_sx ?_ | refine wp_ret' ?_ | refine wp_skip' ?_ | refine wp_exit' ?_)
    exact ⟨rfl, acc, Bx, hs, rfl⟩
  | succ m ih =>
    intro i acc Bx hi hs
    have hi2 : i < (prs (h + w)).length := by omega
    have he := mem_prs.1 (List.getElem_mem hi2)
    obtain ⟨p, hp⟩ := Int.eq_ofNat_of_zero_le he.1
    obtain ⟨q, hq⟩ := Int.eq_ofNat_of_zero_le (show 0 ≤ ((prs (h + w))[i]).2 by omega)
    have hpq : p < q := by omega
    have hqn : q < h + w := by omega
    have w2 : IntKind.i64.wrap ((i : Int) + 1) = ((i + 1 : Nat) : Int) := wrapS (by omega)
    have hall : acc.length ≤ 21 := by have := hs.length_le; simp at this; omega
    have hal1 : acc.length + 1 ≤ 274877906944 := by omega
    have hat : acc.take acc.length = acc := List.take_of_length_le (Nat.le_refl _)
    have hyes := ih (i + 1) (acc ++ [(prs (h + w))[i]]) (Bx ++ [[I p, I q]]) (by omega) (sub_take_succ hi2 hs)
    have hno := ih (i + 1) acc (Bx ++ [[I p, I q]]) (by omega) (sub_take_skip hs)
    have heq : (prs (h + w))[i] = ((p : Int), (q : Int)) := Prod.ext hp hq
    rw [heq] at hyes
    by_cases hqh : q < h
    · have hqh' : (q : Int) < (t.length : Int) := by omega
      refine wp_loop ?_
      repeat (first | refine wp_as ?_ | refine wp_ss ?_ | refine wp_rs (by simp [hi2, hp, hq, htl, hqh, hqh', w2, hal1, hat]; with_reducible rfl) (by simp; with_reducible rfl) ?_ | refine wp_reg (by simp [hi2, hp, hq, htl, hqh, hqh', w2, hal1, hat]; with_reducible rfl) (by simp; with_reducible rfl) ?_ | (refine wp_ct (t := true) ?_ (fun _ => ?_) (fun hh => nomatch hh); focus (simp [hi2, hp, hq, htl, hqh, hqh', w2, hal1, hat]; done)) | (refine wp_ct (t := false) ?_ (fun hh => nomatch hh) (fun _ => ?_); focus (simp [hi2, hp, hq, htl, hqh, hqh', w2, hal1, hat]; done)) | (refine wp_c (t := true) ?_ (fun _ => ?_) (fun hh => nomatch hh); focus (simp [hi2, hp, hq, htl, hqh, hqh', w2, hal1, hat]; done)) | (refine wp_c (t := false) ?_ (fun hh => nomatch hh) (fun _ => ?_); focus (simp [hi2, hp, hq, htl, hqh, hqh', w2, hal1, hat]; done)) | refine wp_bs ?_ | refine wp_b ?_ | refine wp_sr ?_ | refine wp_sx ?_ | refine wp_ret' ?_ | refine wp_skip' ?_ | refine wp_exit' ?_)
      exact hyes
    have hqh' : ¬ (q : Int) < (t.length : Int) := by omega
    by_cases hph : p < h
    · have hpt : p < t.length := by omega
      have hrow := ht.2 _ (List.getElem_mem hpt)
      obtain ⟨j, hj⟩ : ∃ j, q = h + j := ⟨q - h, by omega⟩
      have hjl : j < t[p].length := by omega
      have w3 : IntKind.i64.wrap ((q : Int) - h) = (j : Int) := by rw [wrap64 (by omega) (by omega)]; omega
      have hjw : j < w := by omega
      have hrl := hrow.1
      by_cases hone : t[p][j] = 1
      · refine wp_loop ?_
        repeat (first | refine wp_as ?_ | refine wp_ss ?_ | refine wp_rs (by simp [hi2, hp, hq, htl, hqh, hqh', hph, hpt, w3, hjl, hrl, hjw, hone, w2, hal1, hat]; with_reducible rfl) (by simp; with_reducible rfl) ?_ | refine wp_reg (by simp [hi2, hp, hq, htl, hqh, hqh', hph, hpt, w3, hjl, hrl, hjw, hone, w2, hal1, hat]; with_reducible rfl) (by simp; with_reducible rfl) ?_ | (refine wp_ct (t := true) ?_ (fun _ => ?_) (fun hh => nomatch hh); focus (simp [hi2, hp, hq, htl, hqh, hqh', hph, hpt, w3, hjl, hrl, hjw, hone, w2, hal1, hat]; done)) | (refine wp_ct (t := false) ?_ (fun hh => nomatch hh) (fun _ => ?_); focus (simp [hi2, hp, hq, htl, hqh, hqh', hph, hpt, w3, hjl, hrl, hjw, hone, w2, hal1, hat]; done)) | (refine wp_c (t := true) ?_ (fun _ => ?_) (fun hh => nomatch hh); focus (simp [hi2, hp, hq, htl, hqh, hqh', hph, hpt, w3, hjl, hrl, hjw, hone, w2, hal1, hat]; done)) | (refine wp_c (t := false) ?_ (fun hh => nomatch hh) (fun _ => ?_); focus (simp [hi2, hp, hq, htl, hqh, hqh', hph, hpt, w3, hjl, hrl, hjw, hone, w2, hal1, hat]; done)) | refine wp_bs ?_ | refine wp_b ?_ | refine wp_sr ?_ | refine wp_sx ?_ | refine wp_ret' ?_ | refine wp_skip' ?_ | refine wp_exit' ?_)
        exact hyes
      · refine wp_loop ?_
        repeat (first | refine wp_as ?_ | refine wp_ss ?_ | refine wp_rs (by simp [hi2, hp, hq, htl, hqh, hqh', hph, hpt, w3, hjl, hrl, hjw, hone, w2, hal1, hat]; with_reducible rfl) (by simp; with_reducible rfl) ?_ | refine wp_reg (by simp [hi2, hp, hq, htl, hqh, hqh', hph, hpt, w3, hjl, hrl, hjw, hone, w2, hal1, hat]; with_reducible rfl) (by simp; with_reducible rfl) ?_ | (refine wp_ct (t := true) ?_ (fun _ => ?_) (fun hh => nomatch hh); focus (simp [hi2, hp, hq, htl, hqh, hqh', hph, hpt, w3, hjl, hrl, hjw, hone, w2, hal1, hat]; done)) | (refine wp_ct (t := false) ?_ (fun hh => nomatch hh) (fun _ => ?_); focus (simp [hi2, hp, hq, htl, hqh, hqh', hph, hpt, w3, hjl, hrl, hjw, hone, w2, hal1, hat]; done)) | (refine wp_c (t := true) ?_ (fun _ => ?_) (fun hh => nomatch hh); focus (simp [hi2, hp, hq, htl, hqh, hqh', hph, hpt, w3, hjl, hrl, hjw, hone, w2, hal1, hat]; done)) | (refine wp_c (t := false) ?_ (fun hh => nomatch hh) (fun _ => ?_); focus (simp [hi2, hp, hq, htl, hqh, hqh', hph, hpt, w3, hjl, hrl, hjw, hone, w2, hal1, hat]; done)) | refine wp_bs ?_ | refine wp_b ?_ | refine wp_sr ?_ | refine wp_sx ?_ | refine wp_ret' ?_ | refine wp_skip' ?_ | refine wp_exit' ?_)
        exact hno
    · refine wp_loop ?_
      repeat (first | refine wp_as ?_ | refine wp_ss ?_ | refine wp_rs (by simp [hi2, hp, hq, htl, hqh, hqh', hph, w2, hal1, hat]; with_reducible rfl) (by simp; with_reducible rfl) ?_ | refine wp_reg (by simp [hi2, hp, hq, htl, hqh, hqh', hph, w2, hal1, hat]; with_reducible rfl) (by simp; with_reducible rfl) ?_ | (refine wp_ct (t := true) ?_ (fun _ => ?_) (fun hh => nomatch hh); focus (simp [hi2, hp, hq, htl, hqh, hqh', hph, w2, hal1, hat]; done)) | (refine wp_ct (t := false) ?_ (fun hh => nomatch hh) (fun _ => ?_); focus (simp [hi2, hp, hq, htl, hqh, hqh', hph, w2, hal1, hat]; done)) | (refine wp_c (t := true) ?_ (fun _ => ?_) (fun hh => nomatch hh); focus (simp [hi2, hp, hq, htl, hqh, hqh', hph, w2, hal1, hat]; done)) | (refine wp_c (t := false) ?_ (fun hh => nomatch hh) (fun _ => ?_); focus (simp [hi2, hp, hq, htl, hqh, hqh', hph, w2, hal1, hat]; done)) | refine wp_bs ?_ | refine wp_b ?_ | refine wp_sr ?_ | refine wp_sx ?_ | refine wp_ret' ?_ | refine wp_skip' ?_ | refine wp_exit' ?_)
      exact hno

theorem ev_splitGraph (h w : Nat) (hh : h ≤ 3) (h1 : 1 ≤ h) (hw : w ≤ 4) (t : List (List Int)) (c : Bool) (ht : MM h w t) :
    ∃ acc : List (Int × Int), acc.Sublist (prs (h + w)) ∧ Ev tb l_spec_splitGraph [] [TL t c] [] ⟨OG ((h : Int) + w) acc, [], [], []⟩ := by
  suffices hx : ∃ r, (∃ acc : List (Int × Int), acc.Sublist (prs (h + w)) ∧ r = ⟨OG ((h : Int) + w) acc, [], [], []⟩) ∧ Ev tb l_spec_splitGraph [] [TL t c] [] r by
    obtain ⟨r, ⟨acc, q1, rfl⟩, q2⟩ := hx
    exact ⟨acc, q1, q2⟩
  have htl := ht.1
  have h0 : 0 < t.length := by omega
  have hr0 := (ht.2 _ (List.getElem_mem h0)).1
  have h0' : 0 < h := h1
  have w1 : IntKind.i64.wrap ((h : Int) + w) = (h : Int) + w := wrap64 (by omega) (by omega)
  have e1 := ev_lim (ev_pairs (h + w) (by omega))
  rw [show ((h + w : Nat) : Int) = (h : Int) + w by omega] at e1
  have hlo := sp_in h w hh h1 hw t c ht (prs (h + w)).length 0 [] [] (by simp) (by simp)
  refine call_ex tb_spec_splitGraph rfl ?_
  repeat (first | refine wp_as ?_ | refine wp_ss ?_ | refine wp_rs (by simp [htl, h0', h0, hr0, w1, e1]; with_reducible rfl) (by simp; with_reducible rfl) ?_ | refine wp_reg (by simp [htl, h0', h0, hr0, w1, e1]; with_reducible rfl) (by simp; with_reducible rfl) ?_ | (refine wp_ct (t := true) ?_ (fun _ => ?_) (fun hh => nomatch hh); focus (simp [htl, h0', h0, hr0, w1, e1]; done)) | (refine wp_ct (t := false) ?_ (fun hh => nomatch hh) (fun _ => ?_); focus (simp [htl, h0', h0, hr0, w1, e1]; done)) | (refine wp_c (t := true) ?_ (fun _ => ?_) (fun hh => nomatch hh); focus (simp [htl, h0', h0, hr0, w1, e1]; done)) | (refine wp_c (t := false) ?_ (fun hh => nomatch hh) (fun _ => ?_); focus (simp [htl, h0', h0, hr0, w1, e1]; done)) | refine wp_bs ?_ | refine wp_b ?_ | refine wp_sr ?_ | refine wp_sx ?_ | refine wp_ret' ?_ | refine wp_skip' ?_ | refine wp_exit' ?_)
  refine wp_imp hlo ?_
  rintro ex st ⟨rfl, acc, Bx, hs, rfl⟩
  simp only [if_true]
  have hat : acc.take acc.length = acc := List.take_of_length_le (Nat.le_refl _)
  repeat (first | refine wp_as ?_ | refine wp_ss ?_ | refine wp_rs (by simp [hat]; with_reducible rfl) (by simp; with_reducible rfl) ?_ | refine wp_reg (by simp [hat]; with_reducible rfl) (by simp; with_reducible rfl) ?_ | (refine wp_ct (t := true) ?_ (fun _ => ?_) (fun hh => nomatch hh); focus (simp [hat]; done)) | (refine wp_ct (t := false) ?_ (fun hh => nomatch hh) (fun _ => ?_); focus (simp [hat]; done)) | (refine wp_c (t := true) ?_ (fun _ => ?_) (fun hh => nomatch hh); focus (simp [hat]; done)) | (refine wp_c (t := false) ?_ (fun hh => nomatch hh) (fun _ => ?_); focus (simp [hat]; done)) | refine wp_bs ?_ | refine wp_b ?_ | refine wp_sr ?_ | refine wp_sx ?_ | refine wp_ret' ?_ | refine wp_skip' ?_ | refine wp_exit' ?_)
  refine ⟨.inr rfl, _, ⟨acc, hs, rfl⟩, ?_⟩
  simp [if_spec_splitGraph]

theorem ev_aSplit (code : List Int) (c : Bool) (hc : CodeOk code) (cnt : Nat) (hn : cnt ≤ 60000) (bs : Boxes) (Ms : List Boxes) :
    ∃ (n : Nat) (es : List (Int × Int)) (k : Nat), n ≤ 7 ∧ es.length ≤ 21 ∧ EdgesIn n es ∧ k ≤ cnt + 100 ∧
      limF tb l_spec_aSplit [] [.bptr 0 0 0] ((R code c cnt :: bs) :: Ms) = some ⟨OG n es, [], (R code c k :: bs) :: Ms, []⟩ := by
  obtain ⟨v1, k1, hv1, hk1, e1⟩ := pick' code c hc cnt (by omega) 3 (by omega) bs (Ms ++ [[[I 0, Z]]])
  have hv1 := hv1 (by omega)
  obtain ⟨v2, k2, hv2, hk2, e2⟩ := pick' code c hc k1 (by omega) 4 (by omega) bs (Ms ++ [[[I 0, Z]]])
  have hv2 := hv2 (by omega)
  obtain ⟨t, k3, ht, hk3, e3⟩ := ev_aMatrix code c hc k2 (by omega) (1 + v1) (1 + v2) (by omega) (by omega) bs (Ms ++ [[[I 0, Z]]])
  rw [show ((1 + v1 : Nat) : Int) = 1 + (v1 : Int) by omega, show ((1 + v2 : Nat) : Int) = 1 + (v2 : Int) by omega] at e3
  obtain ⟨acc, hs, hE⟩ := ev_splitGraph (1 + v1) (1 + v2) (by omega) (by omega) (by omega) t false ht
  have e4 := ev_lim hE
  have hal := hs.length_le
  have hp21 := prs_le21 (1 + v1 + (1 + v2)) (by omega)
  obtain ⟨out, k4, ho1, ho2, hk4, e5⟩ := ev_moved code c hc k3 (by omega) (1 + v1 + (1 + v2)) (by omega) acc false (prs_in hs) (by omega) bs (Ms ++ [[[I 0, Z]]])
  rw [show ((1 + v1 + (1 + v2) : Nat) : Int) = ((1 + v1 : Nat) : Int) + ((1 + v2 : Nat) : Int) by omega] at e5
  have w1 : IntKind.i64.wrap (1 + (v1 : Int)) = 1 + (v1 : Int) := wrap64 (by omega) (by omega)
  have w2 : IntKind.i64.wrap (1 + (v2 : Int)) = 1 + (v2 : Int) := wrap64 (by omega) (by omega)
  have hto : t.take t.length = t := List.take_of_length_le (Nat.le_refl _)
  refine ⟨1 + v1 + (1 + v2), out, k4, by omega, by omega, ho2, by omega, ev_lim ?_⟩
  rw [show ((1 + v1 + (1 + v2) : Nat) : Int) = ((1 + v1 : Nat) : Int) + ((1 + v2 : Nat) : Int) by omega]
  generalize ((1 + v1 : Nat) : Int) + ((1 + v2 : Nat) : Int) = nn at *
  have hot : out.take out.length = out := List.take_of_length_le (Nat.le_refl _)
  refine call_of_wp tb_spec_aSplit rfl ?_
  repeat (first | refine wp_as ?_ | refine wp_ss ?_ | refine wp_rs (by simp [e1, e2, e3, e4, e5, w1, w2, hto, hot]; with_reducible rfl) (by simp; with_reducible rfl) ?_ | refine wp_reg (by simp [e1, e2, e3, e4, e5, w1, w2, hto, hot]; with_reducible rfl) (by simp; with_reducible rfl) ?_ | (refine wp_ct (t := true) ?_ (fun _ => ?_) (fun hh => nomatch hh); focus (simp [e1, e2, e3, e4, e5, w1, w2, hto, hot]; done)) | (refine wp_ct (t := false) ?_ (fun hh => nomatch hh) (fun _ => ?_); focus (simp [e1, e2, e3, e4, e5, w1, w2, hto, hot]; done)) | (refine wp_c (t := true) ?_ (fun _ => ?_) (fun hh => nomatch hh); focus (simp [e1, e2, e3, e4, e5, w1, w2, hto, hot]; done)) | (refine wp_c (t := false) ?_ (fun hh => nomatch hh) (fun _ => ?_); focus (simp [e1, e2, e3, e4, e5, w1, w2, hto, hot]; done)) | refine wp_bs ?_ | refine wp_b ?_ | refine wp_sr ?_ | refine wp_sx ?_ | refine wp_ret' ?_ | refine wp_skip' ?_ | refine wp_exit' ?_)
  simp [if_spec_aSplit]

theorem ev_DrawSplittanceOf (code : List Int) (c : Bool) (h : ∀ x ∈ code, 0 ≤ x ∧ x ≤ 255) (hl : code.length ≤ 10000000) :
    ∃ d : List Int, d.length ≤ 8 ∧ Low 1000 d ∧ limF tb l_spec_DrawSplittanceOf [] [.lst 1 (bytes code) c] [] = some ⟨O d, [], [], []⟩ := by
  obtain ⟨c', e⟩ := ev_newReader code c [[]] (by omega)
  have e1 := ev_lim e
  obtain ⟨v, k1, hv, hk1, e2⟩ := pick' (code.take 2000) c' (code_ok h) 0 (by omega) 3 (by omega) [] []
  rw [show ((0 : Nat) : Int) = 0 from rfl] at e2
  by_cases hv0 : v = 0
  · subst hv0
    obtain ⟨n, es, k2, hn7, hel, hes, hk2, e3⟩ := ev_aSplit (code.take 2000) c' (code_ok h) k1 (by omega) [] []
    have e4 := fun cc => ev_lim (ev_degrees n es cc (by omega) (by omega) hes)
    have hdl : (degs n es).length = n := by rw [degs, dfold_len]; simp
    have hlo : Low 1000 (degs n es) := by
      intro x hx
      have := dfold_bound es (List.replicate n 0) 0 (by intro x hx; have := List.eq_of_mem_replicate hx; omega) (by omega) x hx
      omega
    refine ⟨degs n es, by omega, hlo, ev_lim ?_⟩
    generalize degs n es = d at *
    refine call_of_wp tb_spec_DrawSplittanceOf rfl ?_
    repeat (first | refine wp_as ?_ | refine wp_ss ?_ | refine wp_rs (by simp [e1, e2, e3, e4]; with_reducible rfl) (by simp; with_reducible rfl) ?_ | refine wp_reg (by simp [e1, e2, e3, e4]; with_reducible rfl) (by simp; with_reducible rfl) ?_ | (refine wp_ct (t := true) ?_ (fun _ => ?_) (fun hh => nomatch hh); focus (simp [e1, e2, e3, e4]; done)) | (refine wp_ct (t := false) ?_ (fun hh => nomatch hh) (fun _ => ?_); focus (simp [e1, e2, e3, e4]; done)) | (refine wp_c (t := true) ?_ (fun _ => ?_) (fun hh => nomatch hh); focus (simp [e1, e2, e3, e4]; done)) | (refine wp_c (t := false) ?_ (fun hh => nomatch hh) (fun _ => ?_); focus (simp [e1, e2, e3, e4]; done)) | refine wp_bs ?_ | refine wp_b ?_ | refine wp_sr ?_ | refine wp_sx ?_ | refine wp_ret' ?_ | refine wp_skip' ?_ | refine wp_exit' ?_)
    simp [if_spec_DrawSplittanceOf]
  · have hv1 : ¬ (v : Int) = 0 := by omega
    obtain ⟨d, k2, hd, hlo, hk2, e3⟩ := ev_someDegrees (code.take 2000) c' (code_ok h) k1 (by omega) [] []
    refine ⟨d, by omega, hlo, ev_lim ?_⟩
    refine call_of_wp tb_spec_DrawSplittanceOf rfl ?_
    repeat (first | refine wp_as ?_ | refine wp_ss ?_ | refine wp_rs (by simp [e1, e2, e3, hv0, hv1]; with_reducible rfl) (by simp; with_reducible rfl) ?_ | refine wp_reg (by simp [e1, e2, e3, hv0, hv1]; with_reducible rfl) (by simp; with_reducible rfl) ?_ | (refine wp_ct (t := true) ?_ (fun _ => ?_) (fun hh => nomatch hh); focus (simp [e1, e2, e3, hv0, hv1]; done)) | (refine wp_ct (t := false) ?_ (fun hh => nomatch hh) (fun _ => ?_); focus (simp [e1, e2, e3, hv0, hv1]; done)) | (refine wp_c (t := true) ?_ (fun _ => ?_) (fun hh => nomatch hh); focus (simp [e1, e2, e3, hv0, hv1]; done)) | (refine wp_c (t := false) ?_ (fun hh => nomatch hh) (fun _ => ?_); focus (simp [e1, e2, e3, hv0, hv1]; done)) | refine wp_bs ?_ | refine wp_b ?_ | refine wp_sr ?_ | refine wp_sx ?_ | refine wp_ret' ?_ | refine wp_skip' ?_ | refine wp_exit' ?_)
    simp [if_spec_DrawSplittanceOf]

theorem ev_FnSplittanceOf (law : ∀ d, graphic d = true → splitt (comp d) = splitt d ∧ valid (comp d) = true) (code : List Int) (c : Bool) (h : ∀ x ∈ code, 0 ≤ x ∧ x ≤ 255) :
    Ev tb l_laws_FnSplittanceOf [] [.lst 1 (bytes code) c] [] ⟨Bo true, [], [], []⟩ := by
  by_cases hc : (1048576 : Int) < code.length
  · refine call_of_wp tb_laws_FnSplittanceOf rfl ?_
    repeat (first | refine wp_as ?_ | refine wp_ss ?_ | refine wp_rs (by simp [hc]; with_reducible rfl) (by simp; with_reducible rfl) ?_ | refine wp_reg (by simp [hc]; with_reducible rfl) (by simp; with_reducible rfl) ?_ | (refine wp_ct (t := true) ?_ (fun _ => ?_) (fun hh => nomatch hh); focus (simp [hc]; done)) | (refine wp_ct (t := false) ?_ (fun hh => nomatch hh) (fun _ => ?_); focus (simp [hc]; done)) | (refine wp_c (t := true) ?_ (fun _ => ?_) (fun hh => nomatch hh); focus (simp [hc]; done)) | (refine wp_c (t := false) ?_ (fun hh => nomatch hh) (fun _ => ?_); focus (simp [hc]; done)) | refine wp_bs ?_ | refine wp_b ?_ | refine wp_sr ?_ | refine wp_sx ?_ | refine wp_ret' ?_ | refine wp_skip' ?_ | refine wp_exit' ?_)
    simp [if_laws_FnSplittanceOf]
  obtain ⟨d, hd, hlo, e1⟩ := ev_DrawSplittanceOf code c h (by omega)
  have e2 := ev_lim (ev_SplittanceOf d false (by omega))
  have e3 := ev_lim (ev_spec_SplittanceOf d false (by omega))
  by_cases hs : splitt d < 0
  · refine call_of_wp tb_laws_FnSplittanceOf rfl ?_
    repeat (first | refine wp_as ?_ | refine wp_ss ?_ | refine wp_rs (by simp [hc, e1, e2, e3, hs]; with_reducible rfl) (by simp; with_reducible rfl) ?_ | refine wp_reg (by simp [hc, e1, e2, e3, hs]; with_reducible rfl) (by simp; with_reducible rfl) ?_ | (refine wp_ct (t := true) ?_ (fun _ => ?_) (fun hh => nomatch hh); focus (simp [hc, e1, e2, e3, hs]; done)) | (refine wp_ct (t := false) ?_ (fun hh => nomatch hh) (fun _ => ?_); focus (simp [hc, e1, e2, e3, hs]; done)) | (refine wp_c (t := true) ?_ (fun _ => ?_) (fun hh => nomatch hh); focus (simp [hc, e1, e2, e3, hs]; done)) | (refine wp_c (t := false) ?_ (fun hh => nomatch hh) (fun _ => ?_); focus (simp [hc, e1, e2, e3, hs]; done)) | refine wp_bs ?_ | refine wp_b ?_ | refine wp_sr ?_ | refine wp_sx ?_ | refine wp_ret' ?_ | refine wp_skip' ?_ | refine wp_exit' ?_)
    simp [if_laws_FnSplittanceOf]
  have hg : graphic d = true := by
    cases hg : graphic d with
    | true => rfl
    | false => rw [splitt, hg] at hs; exact absurd (by simp) hs
  obtain ⟨hl1, hl2⟩ := law d hg
  have hv : valid d = true := by simp only [graphic, Bool.and_eq_true] at hg; exact hg.1.1
  have e4 := ev_lim (ev_Complement d false hv)
  have hcl : (comp d).length ≤ 7 := (valid_few hl2).1
  have e5 := ev_lim (ev_SplittanceOf (comp d) false (by omega))
  have e6 := ev_lim (ev_IsSplit d false (by omega))
  have e7 := ev_lim (ev_IsGraphic d false (by omega))
  rw [hl1] at e5
  rw [hg] at e7
  generalize splitt d = s at *
  by_cases h0 : s = 0
  · refine call_of_wp tb_laws_FnSplittanceOf rfl ?_
    repeat (first | refine wp_as ?_ | refine wp_ss ?_ | refine wp_rs (by simp [hc, e1, e2, e3, hs, e4, e5, e6, e7, h0]; with_reducible rfl) (by simp; with_reducible rfl) ?_ | refine wp_reg (by simp [hc, e1, e2, e3, hs, e4, e5, e6, e7, h0]; with_reducible rfl) (by simp; with_reducible rfl) ?_ | (refine wp_ct (t := true) ?_ (fun _ => ?_) (fun hh => nomatch hh); focus (simp [hc, e1, e2, e3, hs, e4, e5, e6, e7, h0]; done)) | (refine wp_ct (t := false) ?_ (fun hh => nomatch hh) (fun _ => ?_); focus (simp [hc, e1, e2, e3, hs, e4, e5, e6, e7, h0]; done)) | (refine wp_c (t := true) ?_ (fun _ => ?_) (fun hh => nomatch hh); focus (simp [hc, e1, e2, e3, hs, e4, e5, e6, e7, h0]; done)) | (refine wp_c (t := false) ?_ (fun hh => nomatch hh) (fun _ => ?_); focus (simp [hc, e1, e2, e3, hs, e4, e5, e6, e7, h0]; done)) | refine wp_bs ?_ | refine wp_b ?_ | refine wp_sr ?_ | refine wp_sx ?_ | refine wp_ret' ?_ | refine wp_skip' ?_ | refine wp_exit' ?_)
    simp [if_laws_FnSplittanceOf]
  · refine call_of_wp tb_laws_FnSplittanceOf rfl ?_
    repeat (first | refine wp_as ?_ | refine wp_ss ?_ | refine wp_rs (by simp [hc, e1, e2, e3, hs, e4, e5, e6, e7, h0]; with_reducible rfl) (by simp; with_reducible rfl) ?_ | refine wp_reg (by simp [hc, e1, e2, e3, hs, e4, e5, e6, e7, h0]; with_reducible rfl) (by simp; with_reducible rfl) ?_ | (refine wp_ct (t := true) ?_ (fun _ => ?_) (fun hh => nomatch hh); focus (simp [hc, e1, e2, e3, hs, e4, e5, e6, e7, h0]; done)) | (refine wp_ct (t := false) ?_ (fun hh => nomatch hh) (fun _ => ?_); focus (simp [hc, e1, e2, e3, hs, e4, e5, e6, e7, h0]; done)) | (refine wp_c (t := true) ?_ (fun _ => ?_) (fun hh => nomatch hh); focus (simp [hc, e1, e2, e3, hs, e4, e5, e6, e7, h0]; done)) | (refine wp_c (t := false) ?_ (fun hh => nomatch hh) (fun _ => ?_); focus (simp [hc, e1, e2, e3, hs, e4, e5, e6, e7, h0]; done)) | refine wp_bs ?_ | refine wp_b ?_ | refine wp_sr ?_ | refine wp_sx ?_ | refine wp_ret' ?_ | refine wp_skip' ?_ | refine wp_exit' ?_)
    simp [if_laws_FnSplittanceOf]

end Go.Idl

