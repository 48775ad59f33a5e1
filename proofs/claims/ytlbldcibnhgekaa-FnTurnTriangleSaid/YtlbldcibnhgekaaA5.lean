/- Part 5 of a proof by an ideal interpreter of the code: its definitions and lemmas. Conditions: none. -/
import Derived.KernelRfl
import Derived.Test.YtlbldcibnhgekaaA4
set_option linter.all false
set_option linter.unusedVariables false
set_option linter.unusedSimpArgs false
namespace Go.Idl

open Go

theorem ev_in (n lo hi : Int) : Ev tb l_impl_in [] [I n, I lo, I hi] [] ⟨Bo (decide (lo ≤ n) && decide (n ≤ hi)), [], [], []⟩ := by
  refine call_of_wp tb_impl_in rfl ?_
  refine wp_rs (by simp; rfl) (by simp; rfl) ?_
  by_cases h : lo ≤ n
  · refine wp_rs (by simp [h]; rfl) (by simp; rfl) ?_
    refine wp_ret' ?_
    simp [h, if_impl_in]
  · refine wp_rs (by simp [h]; rfl) (by simp; rfl) ?_
    refine wp_ret' ?_
    simp [h, if_impl_in]

theorem ev_inRange (n lo hi : Int) : Ev tb l_spec_inRange [] [I n, I lo, I hi] [] ⟨Bo (decide (lo ≤ n) && decide (n ≤ hi)), [], [], []⟩ := by
  refine call_of_wp tb_spec_inRange rfl ?_
  refine wp_rs (by simp; rfl) (by simp; rfl) ?_
  by_cases h : lo ≤ n
  · refine wp_rs (by simp [h]; rfl) (by simp; rfl) ?_
    refine wp_ret' ?_
    simp [h, if_spec_inRange]
  · refine wp_rs (by simp [h]; rfl) (by simp; rfl) ?_
    refine wp_ret' ?_
    simp [h, if_spec_inRange]

/-- Sums that stay small. -/
def SmallSum (xs : List Int) : Prop := xs.length ≤ 1000000 ∧ ∀ k, -4611686018427387904 ≤ (xs.take k).sum ∧ (xs.take k).sum ≤ 4611686018427387904

theorem sum_take_succ {xs : List Int} {i : Nat} (h : i < xs.length) : (xs.take i).sum + xs[i] = (xs.take (i + 1)).sum := by
  rw [List.take_succ_eq_append_getElem h, List.sum_append]; simp

theorem ev_sum (xs : List Int) (c : Bool) (hs : SmallSum xs) : Ev tb l_impl_sum [] [.lst 1 (ints xs) c] [] ⟨I xs.sum, [], [], []⟩ := by
  obtain ⟨hl, hs⟩ := hs
  have loop : ∀ (m i : Nat), i + m = xs.length → wp tb (.loop ic_impl_sum_l7) { T := [(0, .lst 1 (ints xs) c), (3, I (xs.take i).sum), (6, .lst 1 (ints xs) c), (7, I xs.length), (8, I i)], loc := [], M := [] }
      (fun ex st => ex = .exit 0 ∧ st = { T := [(0, .lst 1 (ints xs) c), (3, I xs.sum), (6, .lst 1 (ints xs) c), (7, I xs.length), (8, I xs.length), (9, Bo false)], loc := [], M := [] }) := by
    intro m
    induction m with
    | zero =>
      intro i hi
      have hi' : i = xs.length := by omega
      subst hi'
      apply wp_loop
      refine wp_rs (by simp; rfl) (by simp; rfl) ?_
      refine wp_ct rfl (by simp) fun _ => wp_sx ?_
      simp
    | succ m ih =>
      intro i hi
      have hi' : i < xs.length := by omega
      have h1 := hs (i + 1)
      rw [← sum_take_succ hi'] at h1
      apply wp_loop
      refine wp_rs (by simp; rfl) (by simp; rfl) ?_
      refine wp_ct rfl (fun _ => wp_ss ?_) (by simp [hi'])
      refine wp_bs ?_
      refine wp_rs (by simp [hi']; rfl) (by simp; rfl) ?_
      refine wp_reg (by simp; rfl) (by simp; rfl) ?_
      refine wp_reg (by simp; rfl) (by simp; rfl) ?_
      have := ih (i + 1) (by omega)
      rw [wrapS (by omega), wrap64 (by omega) (by omega), sum_take_succ hi']
      exact this
  refine call_of_wp tb_impl_sum rfl ?_
  refine wp_rs (by simp; rfl) (by simp; rfl) ?_
  refine wp_rs (by simp; rfl) (by simp; rfl) ?_
  refine wp_as (wp_rs (by simp; rfl) (by simp; rfl) ?_)
  refine wp_bs (wp_imp (loop xs.length 0 (by simp)) ?_)
  rintro ex st ⟨rfl, rfl⟩
  simp only [if_true]
  refine wp_rs (by simp; rfl) (by simp; rfl) ?_
  refine wp_ret' ?_
  simp [if_impl_sum]

theorem ev_Clip (xs : List Int) : Ev tb l_slices_Clip_Sint_int_ [] [.own 1 (ints xs)] [] ⟨.own 1 (ints xs), [], [], []⟩ := by
  refine call_of_wp tb_slices_Clip_Sint_int_ rfl ?_
  refine wp_rs (by simp; rfl) (by simp; rfl) ?_
  refine wp_rs (by simp; rfl) (by simp; rfl) ?_
  refine wp_ret' ?_
  simp [if_slices_Clip_Sint_int_]

theorem ev_Clone (xs : List Int) (c : Bool) (hl : xs.length ≤ 1000000) : Ev tb l_slices_Clone_Sint_int_ [] [.lst 1 (ints xs) c] [] ⟨.own 1 (ints xs), [], [], []⟩ := by
  refine call_of_wp tb_slices_Clone_Sint_int_ rfl ?_
  refine wp_rs (by simp; rfl) (by simp; rfl) ?_
  refine wp_nil2 (b := xs.isEmpty) (by simp [ic_slices_Clone_Sint_int__r1]; rfl) (by simp) ?_ ?_ ?_ (ex := .ret) (st' := { T := [(2, .own 1 (ints xs))], loc := [], M := [] })
  · refine wp_ct (t := false) (by simp) (by simp) fun _ => wp_ss ?_
    refine wp_rs (by simp [show xs.length ≤ 274877906944 by omega]; rfl) (by simp; rfl) ?_
    refine wp_ret' ?_
    simp
  · intro he
    have : xs = [] := by simpa using he
    subst this
    refine wp_ct (t := true) (by simp) (fun _ => wp_as ?_) (by simp)
    refine wp_rs (by simp; rfl) (by simp; rfl) ?_
    refine wp_sr ?_
    simp
  · simp [if_slices_Clone_Sint_int_]

theorem ev_clone (xs : List Int) (c : Bool) (hl : xs.length ≤ 1000000) :
    Ev tb l_impl_clone_int_ [] [.lst 1 (ints xs) c] [] ⟨.own 1 (ints xs), [], [], []⟩ := by
  have e1 := ev_lim (ev_Clone xs c hl)
  have e2 := ev_lim (ev_Clip xs)
  refine call_of_wp tb_impl_clone_int_ rfl ?_
  refine wp_rs (by simp; rfl) (by simp; rfl) ?_
  refine wp_rs (by simp [e1, e2]; rfl) (by simp; rfl) ?_
  refine wp_ret' ?_
  simp [if_impl_clone_int_]

end Go.Idl

namespace Go.Idl

/-- Put in, behind those that are not less: falling lists. -/
def insD (x : Int) : List Int → List Int
  | [] => [x]
  | y :: ys => if x ≤ y then y :: insD x ys else x :: y :: ys

/-- A list, the greatest number first. -/
def fall (xs : List Int) : List Int := xs.foldl (fun out x => insD x out) []

abbrev Desc (xs : List Int) : Prop := xs.Pairwise (fun a b => b ≤ a)

abbrev Asc (xs : List Int) : Prop := xs.Pairwise (fun a b => a ≤ b)

theorem insD_perm (x : Int) (ys : List Int) : (insD x ys).Perm (x :: ys) := by
  induction ys with
  | nil => exact .refl _
  | cons y ys ih =>
    unfold insD
    split
    · exact (ih.cons y).trans (.swap x y ys)
    · exact .refl _

theorem insD_desc (x : Int) (ys : List Int) (h : Desc ys) : Desc (insD x ys) := by
  induction ys with
  | nil => simp [insD]
  | cons y ys ih =>
    unfold insD
    have h := List.pairwise_cons.1 h
    split
    · refine List.pairwise_cons.2 ⟨fun a ha => ?_, ih h.2⟩
      rcases List.mem_cons.1 ((insD_perm x ys).mem_iff.1 ha) with rfl | ha
      · assumption
      · exact h.1 a ha
    · rename_i hx
      refine List.pairwise_cons.2 ⟨fun a ha => ?_, List.pairwise_cons.2 h⟩
      rcases List.mem_cons.1 ha with rfl | ha
      · omega
      · have := h.1 a ha; omega

theorem fall_aux (xs : List Int) : ∀ ys, Desc ys → Desc (xs.foldl (fun out x => insD x out) ys) ∧ (xs.foldl (fun out x => insD x out) ys).Perm (xs ++ ys) := by
  induction xs with
  | nil => intro ys h; exact ⟨h, .refl _⟩
  | cons x xs ih =>
    intro ys h
    obtain ⟨h1, h2⟩ := ih (insD x ys) (insD_desc x ys h)
    refine ⟨h1, h2.trans ?_⟩
    exact ((insD_perm x ys).append_left xs).trans List.perm_middle

theorem fall_desc (xs : List Int) : Desc (fall xs) := (fall_aux xs [] .nil).1

theorem fall_perm (xs : List Int) : (fall xs).Perm xs := by simpa [fall] using (fall_aux xs [] .nil).2

theorem fall_len (xs : List Int) : (fall xs).length = xs.length := (fall_perm xs).length_eq

theorem desc_unique {xs ys : List Int} (hx : Desc xs) (hy : Desc ys) (h : xs.Perm ys) : xs = ys := by
  refine List.Perm.eq_of_pairwise (le := fun a b => b ≤ a) (fun a b _ _ h1 h2 => by omega) hx hy h

theorem fall_unique {xs ys : List Int} (hy : Desc ys) (h : ys.Perm xs) : ys = fall xs := desc_unique hy (fall_desc xs) (h.trans (fall_perm xs).symm)

theorem perm_sum {xs ys : List Int} (h : xs.Perm ys) : xs.sum = ys.sum := by
  induction h with
  | nil => rfl
  | cons x _ ih => simp [ih]
  | swap x y l => simp; omega
  | trans _ _ h1 h2 => exact h1.trans h2

theorem fall_mem {xs : List Int} {x : Int} : x ∈ fall xs ↔ x ∈ xs := (fall_perm xs).mem_iff

/-- One number goes down to its place (what is ahead, turned round). -/
def insR (x : Int) : List Int → List Int → List Int
  | [], B => x :: B
  | a :: r, B => if x < a then insR x r (a :: B) else r.reverse ++ a :: x :: B

theorem insR_perm (x : Int) : ∀ (r B : List Int), (insR x r B).Perm (r.reverse ++ x :: B)
  | [], B => .refl _
  | a :: r, B => by
    unfold insR
    split
    · refine (insR_perm x r (a :: B)).trans ?_
      rw [List.reverse_cons, List.append_assoc]
      exact List.Perm.append_left _ (.swap _ _ _)
    · rw [List.reverse_cons, List.append_assoc]
      exact .refl _

theorem insR_asc (x : Int) : ∀ (r B : List Int), Asc (r.reverse ++ B) → (∀ b ∈ B, x ≤ b) → Asc (insR x r B)
  | [], B, h, hb => List.pairwise_cons.2 ⟨hb, by simpa using h⟩
  | a :: r, B, h, hb => by
    rw [List.reverse_cons, List.append_assoc] at h
    unfold insR
    split
    · rename_i hx
      refine insR_asc x r (a :: B) h fun b hb' => ?_
      rcases List.mem_cons.1 hb' with rfl | hb'
      · omega
      · exact hb b hb'
    · rename_i hx
      obtain ⟨h1, h2, h3⟩ := List.pairwise_append.1 (show Asc (r.reverse ++ a :: B) from h)
      have h2 := List.pairwise_cons.1 h2
      refine List.pairwise_append.2 ⟨h1, ?_, fun p hp q hq => ?_⟩
      · refine List.pairwise_cons.2 ⟨fun q hq => ?_, List.pairwise_cons.2 ⟨hb, h2.2⟩⟩
        rcases List.mem_cons.1 hq with rfl | hq
        · omega
        · exact h2.1 q hq
      · have ha := h3 p hp a (by simp)
        rcases List.mem_cons.1 hq with rfl | hq
        · exact ha
        · rcases List.mem_cons.1 hq with rfl | hq
          · omega
          · exact h3 p hp q (by simp [hq])

/-- A list, the least number first, by steps. -/
def asc : Nat → List Int → List Int → List Int
  | _, S, [] => S
  | n, S, x :: r => asc n (insR x S.reverse []) r

theorem asc_ok : ∀ (r S : List Int), Asc S → Asc (asc 0 S r) ∧ (asc 0 S r).Perm (S ++ r)
  | [], S, h => ⟨h, by simp [asc]⟩
  | x :: r, S, h => by
    obtain ⟨h1, h2⟩ := asc_ok r (insR x S.reverse []) (insR_asc x _ _ (by simpa using h) (by simp))
    refine ⟨h1, h2.trans ?_⟩
    have := insR_perm x S.reverse []
    rw [List.reverse_reverse] at this
    refine (this.append_right r).trans ?_
    rw [List.append_assoc]; exact .refl _

theorem asc_rev (xs : List Int) : (asc 0 [] xs).reverse = fall xs := by
  obtain ⟨h1, h2⟩ := asc_ok xs [] .nil
  refine fall_unique ?_ ((List.reverse_perm _).trans (by simpa using h2))
  rw [Desc, List.pairwise_reverse]; exact h1

theorem asc_len (xs : List Int) : (asc 0 [] xs).length = xs.length := by simpa using (asc_ok xs [] .nil).2.length_eq

end Go.Idl

namespace Go.Idl

open Go

abbrev L (xs : List Int) (c : Bool := false) : IV := .lst 1 (ints xs) c

abbrev O (xs : List Int) : IV := .own 1 (ints xs)

theorem ev_isNaN (n : Int) : Ev tb l_cmp_isNaN_int_ [] [I n] [] ⟨Bo false, [], [], []⟩ := by
  refine call_of_wp tb_cmp_isNaN_int_ rfl ?_
  repeat (first | refine wp_as ?_ | refine wp_ss ?_ | refine wp_rs (by simp; with_reducible rfl) (by simp; with_reducible rfl) ?_ | refine wp_reg (by simp; with_reducible rfl) (by simp; with_reducible rfl) ?_ | refine wp_ct (t := true) (by simp) (fun _ => ?_) (by intro hh; cases hh) | refine wp_ct (t := false) (by simp) (by intro hh; cases hh) (fun _ => ?_) | refine wp_c (t := true) (by simp) (fun _ => ?_) (by intro hh; cases hh) | refine wp_c (t := false) (by simp) (by intro hh; cases hh) (fun _ => ?_) | refine wp_bs ?_ | refine wp_b ?_ | refine wp_sr ?_ | refine wp_sx ?_ | refine wp_ret' ?_ | refine wp_skip' ?_ | refine wp_exit' ?_)
  simp [if_cmp_isNaN_int_]

theorem ev_Less (a b : Int) : Ev tb l_cmp_Less_int_ [] [I a, I b] [] ⟨Bo (decide (a < b)), [], [], []⟩ := by
  have e1 := fun n => ev_lim (ev_isNaN n)
  refine call_of_wp tb_cmp_Less_int_ rfl ?_
  repeat (first | refine wp_as ?_ | refine wp_ss ?_ | refine wp_rs (by simp [e1]; with_reducible rfl) (by simp; with_reducible rfl) ?_ | refine wp_reg (by simp [e1]; with_reducible rfl) (by simp; with_reducible rfl) ?_ | refine wp_ct (t := true) (by simp [e1]) (fun _ => ?_) (by intro hh; cases hh) | refine wp_ct (t := false) (by simp [e1]) (by intro hh; cases hh) (fun _ => ?_) | refine wp_c (t := true) (by simp [e1]) (fun _ => ?_) (by intro hh; cases hh) | refine wp_c (t := false) (by simp [e1]) (by intro hh; cases hh) (fun _ => ?_) | refine wp_bs ?_ | refine wp_b ?_ | refine wp_sr ?_ | refine wp_sx ?_ | refine wp_ret' ?_ | refine wp_skip' ?_ | refine wp_exit' ?_)
  simp [if_cmp_Less_int_]

theorem app_get1 {A Z : List Int} {a x : Int} : (A ++ a :: x :: Z)[A.length + 1]? = some x := by
  rw [List.getElem?_append_right (by omega)]; simp

theorem app_get0 {A Z : List Int} {a : Int} : (A ++ a :: Z)[A.length]? = some a := by
  rw [List.getElem?_append_right (by omega)]; simp

theorem app_set {A Z : List Int} {a x : Int} : ((A ++ a :: x :: Z).set (A.length + 1) a).set A.length x = A ++ x :: a :: Z := by
  rw [List.set_append_right _ _ (by omega), List.set_append_right _ _ (by omega)]
  simp

theorem insl (n i : Int) (x : Int) (rest : List Int) (M : List Boxes) : ∀ (k : Nat) (A B : List Int), A.length = k → k + B.length + rest.length ≤ 1000000 →
    wp tb (.loop ic_slices_insertionSortOrdered_int__l6) { T := [(0, O (A ++ x :: (B ++ rest))), (1, I 0), (2, I n), (6, I i), (7, I k)], loc := [], M := M }
      (fun ex st => ex = .exit 2 ∧ ∃ k' : Int, st = { T := [(0, O (insR x A.reverse B ++ rest)), (1, I 0), (2, I n), (6, I i), (7, I k'), (30, Bo false)], loc := [], M := M }) := by
  have e1 := fun a b => ev_lim (ev_Less a b)
  intro k
  induction k with
  | zero =>
    intro A B hA hl
    have : A = [] := List.length_eq_zero_iff.1 hA
    subst this
    refine wp_loop ?_
    repeat (first | refine wp_as ?_ | refine wp_ss ?_ | refine wp_rs (by simp; with_reducible rfl) (by simp; with_reducible rfl) ?_ | refine wp_reg (by simp; with_reducible rfl) (by simp; with_reducible rfl) ?_ | refine wp_ct (t := true) (by simp) (fun _ => ?_) (by intro hh; cases hh) | refine wp_ct (t := false) (by simp) (by intro hh; cases hh) (fun _ => ?_) | refine wp_c (t := true) (by simp) (fun _ => ?_) (by intro hh; cases hh) | refine wp_c (t := false) (by simp) (by intro hh; cases hh) (fun _ => ?_) | refine wp_bs ?_ | refine wp_b ?_ | refine wp_sr ?_ | refine wp_sx ?_ | refine wp_ret' ?_ | refine wp_skip' ?_ | refine wp_exit' ?_)
    exact ⟨rfl, _, by simp [insR]; rfl⟩
  | succ k ih =>
    intro A B hA hl
    obtain ⟨A', a, rfl⟩ : ∃ A' a, A = A' ++ [a] := ⟨A.dropLast, A.getLast (by intro h; subst h; simp at hA), (List.dropLast_concat_getLast _).symm⟩
    have hA' : A'.length = k := by simpa using hA
    subst hA'
    have w1 : IntKind.i64.wrap (A'.length : Int) = (A'.length : Int) := wrapN (by omega)
    have w2 : (0 : Int) < (A'.length : Int) + 1 := by omega
    simp only [List.append_assoc, List.singleton_append]
    by_cases hx : x < a
    · refine wp_loop ?_
      repeat (first | refine wp_as ?_ | refine wp_ss ?_ | refine wp_rs (by simp [e1, hx, w1, w2, app_get0, app_get1, app_set]; with_reducible rfl) (by simp; with_reducible rfl) ?_ | refine wp_reg (by simp [e1, hx, w1, w2, app_get0, app_get1, app_set]; with_reducible rfl) (by simp; with_reducible rfl) ?_ | refine wp_ct (t := true) (by simp [e1, hx, w1, w2, app_get0, app_get1, app_set]) (fun _ => ?_) (by intro hh; cases hh) | refine wp_ct (t := false) (by simp [e1, hx, w1, w2, app_get0, app_get1, app_set]) (by intro hh; cases hh) (fun _ => ?_) | refine wp_c (t := true) (by simp [e1, hx, w1, w2, app_get0, app_get1, app_set]) (fun _ => ?_) (by intro hh; cases hh) | refine wp_c (t := false) (by simp [e1, hx, w1, w2, app_get0, app_get1, app_set]) (by intro hh; cases hh) (fun _ => ?_) | refine wp_bs ?_ | refine wp_b ?_ | refine wp_sr ?_ | refine wp_sx ?_ | refine wp_ret' ?_ | refine wp_skip' ?_ | refine wp_exit' ?_)
      have := ih A' (a :: B) rfl (by simp; omega)
      simp only [List.cons_append, List.reverse_append, List.reverse_cons, List.reverse_nil, List.nil_append] at this ⊢
      simp only [insR, hx, if_true]
      exact this
    · refine wp_loop ?_
      repeat (first | refine wp_as ?_ | refine wp_ss ?_ | refine wp_rs (by simp [e1, hx, w1, w2, app_get0, app_get1, app_set]; with_reducible rfl) (by simp; with_reducible rfl) ?_ | refine wp_reg (by simp [e1, hx, w1, w2, app_get0, app_get1, app_set]; with_reducible rfl) (by simp; with_reducible rfl) ?_ | refine wp_ct (t := true) (by simp [e1, hx, w1, w2, app_get0, app_get1, app_set]) (fun _ => ?_) (by intro hh; cases hh) | refine wp_ct (t := false) (by simp [e1, hx, w1, w2, app_get0, app_get1, app_set]) (by intro hh; cases hh) (fun _ => ?_) | refine wp_c (t := true) (by simp [e1, hx, w1, w2, app_get0, app_get1, app_set]) (fun _ => ?_) (by intro hh; cases hh) | refine wp_c (t := false) (by simp [e1, hx, w1, w2, app_get0, app_get1, app_set]) (by intro hh; cases hh) (fun _ => ?_) | refine wp_bs ?_ | refine wp_b ?_ | refine wp_sr ?_ | refine wp_sx ?_ | refine wp_ret' ?_ | refine wp_skip' ?_ | refine wp_exit' ?_)
      refine ⟨rfl, ((A'.length + 1 : Nat) : Int), ?_⟩
      simp only [List.reverse_append, List.reverse_cons, List.reverse_nil, List.nil_append, List.cons_append]
      simp only [insR, hx, if_false, List.reverse_reverse, List.append_assoc, List.cons_append]
      rfl

theorem insr_len (x : Int) (S : List Int) : (insR x S.reverse []).length = S.length + 1 := by
  have := (insR_perm x S.reverse []).length_eq
  simpa using this

theorem sortl (M : List Boxes) (n : Int) : ∀ (r S : List Int), n = (S.length + r.length : Nat) → S.length + r.length ≤ 1000000 → 
    wp tb (.loop ic_slices_insertionSortOrdered_int__l8) { T := [(0, O (S ++ r)), (1, I 0), (2, I n), (6, I S.length)], loc := [], M := M }
      (fun ex st => ex = .exit 0 ∧ ∃ k' : Int, st = { T := [(0, O (asc 0 S r)), (1, I 0), (2, I n), (6, I k'), (12, Bo false)], loc := [], M := M }) := by
  intro r
  induction r with
  | nil =>
    intro S hn hl
    refine wp_loop ?_
    have h1 : ¬ (S.length : Int) < n := by simp at hn; omega
    repeat (first | refine wp_as ?_ | refine wp_ss ?_ | refine wp_rs (by simp [h1]; with_reducible rfl) (by simp; with_reducible rfl) ?_ | refine wp_reg (by simp [h1]; with_reducible rfl) (by simp; with_reducible rfl) ?_ | refine wp_ct (t := true) (by simp [h1]) (fun _ => ?_) (by intro hh; cases hh) | refine wp_ct (t := false) (by simp [h1]) (by intro hh; cases hh) (fun _ => ?_) | refine wp_c (t := true) (by simp [h1]) (fun _ => ?_) (by intro hh; cases hh) | refine wp_c (t := false) (by simp [h1]) (by intro hh; cases hh) (fun _ => ?_) | refine wp_bs ?_ | refine wp_b ?_ | refine wp_sr ?_ | refine wp_sx ?_ | refine wp_ret' ?_ | refine wp_skip' ?_ | refine wp_exit' ?_)
    exact ⟨rfl, _, by simp [asc]; rfl⟩
  | cons x r ih =>
    intro S hn hl
    refine wp_loop ?_
    simp only [List.length_cons] at hn hl
    have h1 : (S.length : Int) < n := by omega
    have w1 : IntKind.i64.wrap ((S.length : Int) + 1) = (S.length : Int) + 1 := by rw [wrap64 (by omega) (by omega)]
    repeat (first | refine wp_as ?_ | refine wp_ss ?_ | refine wp_rs (by simp [h1, w1]; with_reducible rfl) (by simp; with_reducible rfl) ?_ | refine wp_reg (by simp [h1, w1]; with_reducible rfl) (by simp; with_reducible rfl) ?_ | refine wp_ct (t := true) (by simp [h1, w1]) (fun _ => ?_) (by intro hh; cases hh) | refine wp_ct (t := false) (by simp [h1, w1]) (by intro hh; cases hh) (fun _ => ?_) | refine wp_c (t := true) (by simp [h1, w1]) (fun _ => ?_) (by intro hh; cases hh) | refine wp_c (t := false) (by simp [h1, w1]) (by intro hh; cases hh) (fun _ => ?_) | refine wp_bs ?_ | refine wp_b ?_ | refine wp_sr ?_ | refine wp_sx ?_ | refine wp_ret' ?_ | refine wp_skip' ?_ | refine wp_exit' ?_)
    refine wp_imp (insl n S.length x r M S.length S [] rfl (by simp; omega)) ?_
    rintro ex st ⟨rfl, k', rfl⟩
    simp only [if_true]
    repeat (first | refine wp_as ?_ | refine wp_ss ?_ | refine wp_rs (by simp [h1, w1]; with_reducible rfl) (by simp; with_reducible rfl) ?_ | refine wp_reg (by simp [h1, w1]; with_reducible rfl) (by simp; with_reducible rfl) ?_ | refine wp_ct (t := true) (by simp [h1, w1]) (fun _ => ?_) (by intro hh; cases hh) | refine wp_ct (t := false) (by simp [h1, w1]) (by intro hh; cases hh) (fun _ => ?_) | refine wp_c (t := true) (by simp [h1, w1]) (fun _ => ?_) (by intro hh; cases hh) | refine wp_c (t := false) (by simp [h1, w1]) (by intro hh; cases hh) (fun _ => ?_) | refine wp_bs ?_ | refine wp_b ?_ | refine wp_sr ?_ | refine wp_sx ?_ | refine wp_ret' ?_ | refine wp_skip' ?_ | refine wp_exit' ?_)
    have := ih (insR x S.reverse []) (by rw [insr_len]; omega) (by rw [insr_len]; omega)
    rw [insr_len] at this
    exact this

theorem ev_insertionSort (xs : List Int) (hl : xs.length ≤ 1000) (M : List Boxes) :
    Ev tb l_slices_insertionSortOrdered_int_ [0] [O xs, I 0, I xs.length] M ⟨.tup [], [O (asc 0 [] xs)], M, []⟩ := by
  refine call_of_wp tb_slices_insertionSortOrdered_int_ rfl ?_
  repeat (first | refine wp_as ?_ | refine wp_ss ?_ | refine wp_rs (by simp; with_reducible rfl) (by simp; with_reducible rfl) ?_ | refine wp_reg (by simp; with_reducible rfl) (by simp; with_reducible rfl) ?_ | refine wp_ct (t := true) (by simp) (fun _ => ?_) (by intro hh; cases hh) | refine wp_ct (t := false) (by simp) (by intro hh; cases hh) (fun _ => ?_) | refine wp_c (t := true) (by simp) (fun _ => ?_) (by intro hh; cases hh) | refine wp_c (t := false) (by simp) (by intro hh; cases hh) (fun _ => ?_) | refine wp_bs ?_ | refine wp_b ?_ | refine wp_sr ?_ | refine wp_sx ?_ | refine wp_ret' ?_ | refine wp_skip' ?_ | refine wp_exit' ?_)
  cases xs with
  | nil =>
    refine wp_loop ?_
    repeat (first | refine wp_as ?_ | refine wp_ss ?_ | refine wp_rs (by simp; with_reducible rfl) (by simp; with_reducible rfl) ?_ | refine wp_reg (by simp; with_reducible rfl) (by simp; with_reducible rfl) ?_ | refine wp_ct (t := true) (by simp) (fun _ => ?_) (by intro hh; cases hh) | refine wp_ct (t := false) (by simp) (by intro hh; cases hh) (fun _ => ?_) | refine wp_c (t := true) (by simp) (fun _ => ?_) (by intro hh; cases hh) | refine wp_c (t := false) (by simp) (by intro hh; cases hh) (fun _ => ?_) | refine wp_bs ?_ | refine wp_b ?_ | refine wp_sr ?_ | refine wp_sx ?_ | refine wp_ret' ?_ | refine wp_skip' ?_ | refine wp_exit' ?_)
    simp [if_slices_insertionSortOrdered_int_, asc]
  | cons x r =>
    simp only [List.length_cons] at hl
    refine wp_imp (sortl M _ r [x] (by simp; omega) (by simp; omega)) ?_
    rintro ex st ⟨rfl, k', rfl⟩
    simp [if_slices_insertionSortOrdered_int_, asc, insR]

theorem ev_pdqsort (xs : List Int) (hl : xs.length ≤ 12) (k : Int) (M : List Boxes) :
    Ev tb l_slices_pdqsortOrdered_int_ [0] [O xs, I 0, I xs.length, I k] M ⟨.tup [], [O (asc 0 [] xs)], M, []⟩ := by
  have e1 := ev_lim (ev_insertionSort xs (by omega) (M ++ [[]]))
  have w1 : IntKind.i64.wrap (xs.length : Int) = (xs.length : Int) := wrapN (by omega)
  refine call_of_wp tb_slices_pdqsortOrdered_int_ rfl ?_
  repeat (first | refine wp_as ?_ | refine wp_ss ?_ | refine wp_rs (by simp; with_reducible rfl) (by simp; with_reducible rfl) ?_ | refine wp_reg (by simp; with_reducible rfl) (by simp; with_reducible rfl) ?_ | refine wp_ct (t := true) (by simp) (fun _ => ?_) (by intro hh; cases hh) | refine wp_ct (t := false) (by simp) (by intro hh; cases hh) (fun _ => ?_) | refine wp_c (t := true) (by simp) (fun _ => ?_) (by intro hh; cases hh) | refine wp_c (t := false) (by simp) (by intro hh; cases hh) (fun _ => ?_) | refine wp_bs ?_ | refine wp_b ?_ | refine wp_sr ?_ | refine wp_sx ?_ | refine wp_ret' ?_ | refine wp_skip' ?_ | refine wp_exit' ?_)
  refine wp_loop ?_
  have h : (xs.length : Int) ≤ 12 := by omega
  repeat (first | refine wp_as ?_ | refine wp_ss ?_ | refine wp_rs (by simp [e1, w1, hl, h]; with_reducible rfl) (by simp; with_reducible rfl) ?_ | refine wp_reg (by simp [e1, w1, hl, h]; with_reducible rfl) (by simp; with_reducible rfl) ?_ | refine wp_ct (t := true) (by simp [e1, w1, hl, h]) (fun _ => ?_) (by intro hh; cases hh) | refine wp_ct (t := false) (by simp [e1, w1, hl, h]) (by intro hh; cases hh) (fun _ => ?_) | refine wp_c (t := true) (by simp [e1, w1, hl, h]) (fun _ => ?_) (by intro hh; cases hh) | refine wp_c (t := false) (by simp [e1, w1, hl, h]) (by intro hh; cases hh) (fun _ => ?_) | refine wp_bs ?_ | refine wp_b ?_ | refine wp_sr ?_ | refine wp_sx ?_ | refine wp_ret' ?_ | refine wp_skip' ?_ | refine wp_exit' ?_)
  simp [if_slices_pdqsortOrdered_int_]

/-- A byte of a table. -/
theorem len_r (cf : CF) (n : Int) (m : Nat) (g : ByteArray) (hw : IntKind.u8.wrap n = (m : Int)) (hb : (g[m]?).isSome = true) :
    ∃ k st, execOps cf { T := [(0, .sc (.int .u64 n)), (2, I 0), (14, Bo false)], loc := [], M := [] } [⟨some 19, none, .mv (.t 2)⟩, ⟨some 20, none, .mv (.t 0)⟩, ⟨some 21, none, .conv .u8 (.t 20)⟩, ⟨some 22, none, .idxs (.c (.string g)) (.t 21)⟩,
      ⟨some 23, none, .conv .i64 (.t 22)⟩, ⟨some 24, none, .bin .add (.t 19) (.t 23)⟩, ⟨some 2, none, .asg (.t 24)⟩] = some st ∧ st.cut [2] = { T := [(2, I k)], loc := [], M := [] } := by
  obtain ⟨b, hb⟩ := Option.isSome_iff_exists.1 hb
  refine ⟨_, _, by simp [hw, hb]; rfl, by simp; rfl⟩

set_option maxRecDepth 100000 in
theorem ev_Len64 (n : Nat) (hn : n ≤ 12) : ∃ k : Int, Ev tb l_math_bits_Len64 [] [.sc (.int .u64 n)] [] ⟨I k, [], [], []⟩ := by
  have w8 : IntKind.u8.wrap (n : Int) = (n : Int) := by
    have : n = 0 ∨ n = 1 ∨ n = 2 ∨ n = 3 ∨ n = 4 ∨ n = 5 ∨ n = 6 ∨ n = 7 ∨ n = 8 ∨ n = 9 ∨ n = 10 ∨ n = 11 ∨ n = 12 := by omega
    rcases this with rfl | rfl | rfl | rfl | rfl | rfl | rfl | rfl | rfl | rfl | rfl | rfl | rfl <;> rfl
  have key : ∃ k : Int, ∃ st, execOps (limF tb) { T := [(0, .sc (.int .u64 n)), (2, I 0), (14, Bo false)], loc := [], M := [] } (match ic_math_bits_Len64_r10 with | .reg ops _ _ => ops | _ => []) = some st ∧ st.cut [2] = { T := [(2, I k)], loc := [], M := [] } := by
    have : n = 0 ∨ n = 1 ∨ n = 2 ∨ n = 3 ∨ n = 4 ∨ n = 5 ∨ n = 6 ∨ n = 7 ∨ n = 8 ∨ n = 9 ∨ n = 10 ∨ n = 11 ∨ n = 12 := by omega
    rcases this with rfl | rfl | rfl | rfl | rfl | rfl | rfl | rfl | rfl | rfl | rfl | rfl | rfl
    all_goals
      refine len_r (limF tb) _ _ _ w8 ?_
      rfl
  obtain ⟨k, st, h1, h2⟩ := key
  have g1 : ¬ (4294967296 : Int) ≤ n := by omega
  have g2 : ¬ (65536 : Int) ≤ n := by omega
  have g3 : ¬ (256 : Int) ≤ n := by omega
  refine ⟨k, ?_⟩
  refine call_of_wp tb_math_bits_Len64 rfl ?_
  iterate 4 ((first | refine wp_as ?_ | skip); refine wp_rs (by simp [g1, g2, g3]; rfl) (by simp; rfl) ?_; (first | refine wp_ct (t := false) (by simp) (by simp) (fun _ => ?_) | skip); (first | refine wp_ss ?_ | skip))
  refine wp_rs h1 h2 ?_
  refine wp_ret' ?_
  simp [if_math_bits_Len64]

theorem ev_Len (n : Nat) (hn : n ≤ 12) : ∃ k : Int, Ev tb l_math_bits_Len [] [.sc (.int .u64 n)] [] ⟨I k, [], [], []⟩ := by
  obtain ⟨k, hk⟩ := ev_Len64 n hn
  have e1 := ev_lim hk
  refine ⟨k, ?_⟩
  refine call_of_wp tb_math_bits_Len rfl ?_
  repeat (first | refine wp_as ?_ | refine wp_ss ?_ | refine wp_rs (by simp [e1]; with_reducible rfl) (by simp; with_reducible rfl) ?_ | refine wp_reg (by simp [e1]; with_reducible rfl) (by simp; with_reducible rfl) ?_ | refine wp_ct (t := true) (by simp [e1]) (fun _ => ?_) (by intro hh; cases hh) | refine wp_ct (t := false) (by simp [e1]) (by intro hh; cases hh) (fun _ => ?_) | refine wp_c (t := true) (by simp [e1]) (fun _ => ?_) (by intro hh; cases hh) | refine wp_c (t := false) (by simp [e1]) (by intro hh; cases hh) (fun _ => ?_) | refine wp_bs ?_ | refine wp_b ?_ | refine wp_sr ?_ | refine wp_sx ?_ | refine wp_ret' ?_ | refine wp_skip' ?_ | refine wp_exit' ?_)
  simp [if_math_bits_Len]

theorem wrapU {n : Nat} (h : n < 1000000) : IntKind.u64.wrap (n : Int) = (n : Int) := by
  have e1 : (2 : Int) ^ IntKind.u64.bits = 18446744073709551616 := by decide
  have e3 : IntKind.u64.signed = false := rfl
  unfold IntKind.wrap
  rw [e1, e3]
  simp
  omega

theorem ev_Sort (xs : List Int) (hl : xs.length ≤ 12) (M : List Boxes) :
    Ev tb l_slices_Sort_Sint_int_ [0] [O xs] M ⟨.tup [], [O (asc 0 [] xs)], M, []⟩ := by
  obtain ⟨k, hk⟩ := ev_Len xs.length hl
  have e1 := ev_lim hk
  have e2 := ev_lim (ev_pdqsort xs hl k (M ++ [[]]))
  have w1 := @wrapU xs.length (by omega)
  refine call_of_wp tb_slices_Sort_Sint_int_ rfl ?_
  repeat (first | refine wp_as ?_ | refine wp_ss ?_ | refine wp_rs (by simp [e1, e2, w1]; with_reducible rfl) (by simp; with_reducible rfl) ?_ | refine wp_reg (by simp [e1, e2, w1]; with_reducible rfl) (by simp; with_reducible rfl) ?_ | refine wp_ct (t := true) (by simp [e1, e2, w1]) (fun _ => ?_) (by intro hh; cases hh) | refine wp_ct (t := false) (by simp [e1, e2, w1]) (by intro hh; cases hh) (fun _ => ?_) | refine wp_c (t := true) (by simp [e1, e2, w1]) (fun _ => ?_) (by intro hh; cases hh) | refine wp_c (t := false) (by simp [e1, e2, w1]) (by intro hh; cases hh) (fun _ => ?_) | refine wp_bs ?_ | refine wp_b ?_ | refine wp_sr ?_ | refine wp_sx ?_ | refine wp_ret' ?_ | refine wp_skip' ?_ | refine wp_exit' ?_)
  simp [if_slices_Sort_Sint_int_]

end Go.Idl

namespace Go.Idl

open Go

theorem natOf_add2 {k : IntKind} {a b : Nat} : natOf (.sc (.int k ((a : Int) + (b : Int) + 1))) = some (a + b + 1) := natOf_nat (n := a + b + 1)

theorem rv_get {A m B : List Int} {x y : Int} : (A ++ x :: (m ++ y :: B))[A.length + m.length + 1]? = some y := by
  rw [List.getElem?_append_right (by omega), show A.length + m.length + 1 - A.length = m.length + 1 by omega, List.getElem?_cons_succ, List.getElem?_append_right (by omega)]; simp

theorem rv_getE {A m B : List Int} {x y : Int} {h} : (A ++ x :: (m ++ y :: B))[A.length + m.length + 1]'h = y := by
  have := @rv_get A m B x y
  rw [List.getElem?_eq_getElem h] at this
  exact Option.some.inj this

theorem rv_set {A m B : List Int} {v x y : Int} : (A ++ v :: (m ++ y :: B)).set (A.length + m.length + 1) x = A ++ v :: (m ++ x :: B) := by
  rw [List.set_append_right _ _ (by omega)]
  simp [show A.length + m.length + 1 - A.length = m.length + 1 by omega]

theorem revl (M : List Boxes) : ∀ (k : Nat) (A m B : List Int), m.length ≤ k → A.length + m.length + B.length ≤ 1000000 →
    wp tb (.loop ic_slices_Reverse_Sint_int__l4) { T := [(0, O (A ++ (m ++ B))), (2, I A.length), (3, I ((A.length : Int) + m.length - 1))], loc := [], M := M }
      (fun ex st => ex = .exit 0 ∧ ∃ a b : Int, st = { T := [(0, O (A ++ (m.reverse ++ B))), (2, I a), (3, I b), (9, Bo false)], loc := [], M := M }) := by
  intro k
  induction k with
  | zero =>
    intro A m B hk hl
    have : m = [] := List.length_eq_zero_iff.1 (by omega)
    subst this
    refine wp_loop ?_
    have h : ¬ ((A.length : Int) < A.length - 1) := by omega
    repeat (first | refine wp_as ?_ | refine wp_ss ?_ | refine wp_rs (by simp [h]; with_reducible rfl) (by simp; with_reducible rfl) ?_ | refine wp_reg (by simp [h]; with_reducible rfl) (by simp; with_reducible rfl) ?_ | refine wp_ct (t := true) (by simp [h]) (fun _ => ?_) (by intro hh; cases hh) | refine wp_ct (t := false) (by simp [h]) (by intro hh; cases hh) (fun _ => ?_) | refine wp_c (t := true) (by simp [h]) (fun _ => ?_) (by intro hh; cases hh) | refine wp_c (t := false) (by simp [h]) (by intro hh; cases hh) (fun _ => ?_) | refine wp_bs ?_ | refine wp_b ?_ | refine wp_sr ?_ | refine wp_sx ?_ | refine wp_ret' ?_ | refine wp_skip' ?_ | refine wp_exit' ?_)
    exact ⟨rfl, _, _, rfl⟩
  | succ k ih =>
    intro A m B hk hl
    match m, hk, hl with
    | [], hk, hl =>
      refine wp_loop ?_
      have h : ¬ ((A.length : Int) < A.length - 1) := by omega
      repeat (first | refine wp_as ?_ | refine wp_ss ?_ | refine wp_rs (by simp [h]; with_reducible rfl) (by simp; with_reducible rfl) ?_ | refine wp_reg (by simp [h]; with_reducible rfl) (by simp; with_reducible rfl) ?_ | refine wp_ct (t := true) (by simp [h]) (fun _ => ?_) (by intro hh; cases hh) | refine wp_ct (t := false) (by simp [h]) (by intro hh; cases hh) (fun _ => ?_) | refine wp_c (t := true) (by simp [h]) (fun _ => ?_) (by intro hh; cases hh) | refine wp_c (t := false) (by simp [h]) (by intro hh; cases hh) (fun _ => ?_) | refine wp_bs ?_ | refine wp_b ?_ | refine wp_sr ?_ | refine wp_sx ?_ | refine wp_ret' ?_ | refine wp_skip' ?_ | refine wp_exit' ?_)
      exact ⟨rfl, _, _, rfl⟩
    | [x], hk, hl =>
      refine wp_loop ?_
      repeat (first | refine wp_as ?_ | refine wp_ss ?_ | refine wp_rs (by simp; with_reducible rfl) (by simp; with_reducible rfl) ?_ | refine wp_reg (by simp; with_reducible rfl) (by simp; with_reducible rfl) ?_ | refine wp_ct (t := true) (by simp) (fun _ => ?_) (by intro hh; cases hh) | refine wp_ct (t := false) (by simp) (by intro hh; cases hh) (fun _ => ?_) | refine wp_c (t := true) (by simp) (fun _ => ?_) (by intro hh; cases hh) | refine wp_c (t := false) (by simp) (by intro hh; cases hh) (fun _ => ?_) | refine wp_bs ?_ | refine wp_b ?_ | refine wp_sr ?_ | refine wp_sx ?_ | refine wp_ret' ?_ | refine wp_skip' ?_ | refine wp_exit' ?_)
      exact ⟨rfl, _, _, rfl⟩
    | x :: z :: m', hk, hl =>
      obtain ⟨m, y, hm⟩ : ∃ m y, z :: m' = m ++ [y] := ⟨(z :: m').dropLast, (z :: m').getLast (by simp), (List.dropLast_concat_getLast _).symm⟩
      rw [hm] at hk hl ⊢
      simp only [List.length_cons, List.length_append, List.length_nil] at hk hl
      have hj : (A.length : Int) + (x :: (m ++ [y])).length - 1 = (A.length : Int) + m.length + 1 := by simp; omega
      rw [hj]
      simp only [List.cons_append, List.append_assoc, List.nil_append]
      refine wp_loop ?_
      have h : (A.length : Int) < A.length + m.length + 1 := by omega
      have h2 : A.length < A.length + (m.length + (B.length + 1) + 1) := by omega
      have h3 : A.length + m.length + 1 < A.length + (m.length + (B.length + 1) + 1) := by omega
      have w1 : IntKind.i64.wrap ((A.length : Int) + 1) = ((A ++ [y]).length : Int) := by rw [wrap64 (by omega) (by omega)]; simp
      have w2 : IntKind.i64.wrap ((A.length : Int) + m.length) = ((A ++ [y]).length : Int) + m.length - 1 := by rw [wrap64 (by omega) (by omega)]; simp; omega
      repeat (first | refine wp_as ?_ | refine wp_ss ?_ | refine wp_rs (by simp [h, h2, h3, w1, w2, rv_get, rv_getE, rv_set, natOf_add2, app_get0]; with_reducible rfl) (by simp; with_reducible rfl) ?_ | refine wp_reg (by simp [h, h2, h3, w1, w2, rv_get, rv_getE, rv_set, natOf_add2, app_get0]; with_reducible rfl) (by simp; with_reducible rfl) ?_ | refine wp_ct (t := true) (by simp [h, h2, h3, w1, w2, rv_get, rv_getE, rv_set, natOf_add2, app_get0]) (fun _ => ?_) (by intro hh; cases hh) | refine wp_ct (t := false) (by simp [h, h2, h3, w1, w2, rv_get, rv_getE, rv_set, natOf_add2, app_get0]) (by intro hh; cases hh) (fun _ => ?_) | refine wp_c (t := true) (by simp [h, h2, h3, w1, w2, rv_get, rv_getE, rv_set, natOf_add2, app_get0]) (fun _ => ?_) (by intro hh; cases hh) | refine wp_c (t := false) (by simp [h, h2, h3, w1, w2, rv_get, rv_getE, rv_set, natOf_add2, app_get0]) (by intro hh; cases hh) (fun _ => ?_) | refine wp_bs ?_ | refine wp_b ?_ | refine wp_sr ?_ | refine wp_sx ?_ | refine wp_ret' ?_ | refine wp_skip' ?_ | refine wp_exit' ?_)
      have := ih (A ++ [y]) m (x :: B) (by omega) (by simp; omega)
      simp at this ⊢
      exact this

theorem ev_Reverse (xs : List Int) (hl : xs.length ≤ 1000000) (M : List Boxes) :
    Ev tb l_slices_Reverse_Sint_int_ [0] [O xs] M ⟨.tup [], [O xs.reverse], M, []⟩ := by
  have w1 : IntKind.i64.wrap ((xs.length : Int) - 1) = (xs.length : Int) - 1 := wrap64 (by omega) (by omega)
  refine call_of_wp tb_slices_Reverse_Sint_int_ rfl ?_
  repeat (first | refine wp_as ?_ | refine wp_ss ?_ | refine wp_rs (by simp [w1]; with_reducible rfl) (by simp; with_reducible rfl) ?_ | refine wp_reg (by simp [w1]; with_reducible rfl) (by simp; with_reducible rfl) ?_ | refine wp_ct (t := true) (by simp [w1]) (fun _ => ?_) (by intro hh; cases hh) | refine wp_ct (t := false) (by simp [w1]) (by intro hh; cases hh) (fun _ => ?_) | refine wp_c (t := true) (by simp [w1]) (fun _ => ?_) (by intro hh; cases hh) | refine wp_c (t := false) (by simp [w1]) (by intro hh; cases hh) (fun _ => ?_) | refine wp_bs ?_ | refine wp_b ?_ | refine wp_sr ?_ | refine wp_sx ?_ | refine wp_ret' ?_ | refine wp_skip' ?_ | refine wp_exit' ?_)
  have := revl M xs.length [] xs [] (by omega) (by simp; omega)
  simp at this
  refine wp_imp this ?_
  rintro ex st ⟨rfl, a, b, rfl⟩
  simp [if_slices_Reverse_Sint_int_]

theorem ev_falling (xs : List Int) (c : Bool) (hl : xs.length ≤ 12) :
    Ev tb l_impl_falling [] [L xs c] [] ⟨O (fall xs), [], [], []⟩ := by
  have e1 := ev_lim (ev_clone xs c (by omega))
  have e2 := ev_lim (ev_Sort xs hl [[]])
  have e3 := ev_lim (ev_Reverse (asc 0 [] xs) (by rw [asc_len]; omega) [[]])
  refine call_of_wp tb_impl_falling rfl ?_
  repeat (first | refine wp_as ?_ | refine wp_ss ?_ | refine wp_rs (by simp [e1, e2, e3, asc_rev]; with_reducible rfl) (by simp; with_reducible rfl) ?_ | refine wp_reg (by simp [e1, e2, e3, asc_rev]; with_reducible rfl) (by simp; with_reducible rfl) ?_ | refine wp_ct (t := true) (by simp [e1, e2, e3, asc_rev]) (fun _ => ?_) (by intro hh; cases hh) | refine wp_ct (t := false) (by simp [e1, e2, e3, asc_rev]) (by intro hh; cases hh) (fun _ => ?_) | refine wp_c (t := true) (by simp [e1, e2, e3, asc_rev]) (fun _ => ?_) (by intro hh; cases hh) | refine wp_c (t := false) (by simp [e1, e2, e3, asc_rev]) (by intro hh; cases hh) (fun _ => ?_) | refine wp_bs ?_ | refine wp_b ?_ | refine wp_sr ?_ | refine wp_sx ?_ | refine wp_ret' ?_ | refine wp_skip' ?_ | refine wp_exit' ?_)
  simp [if_impl_falling]

/-- The list, from a place on. -/
theorem drop_get {xs : List Int} {i m : Nat} (h : i + (m + 1) = xs.length) : ∃ h : i < xs.length, xs.drop i = xs[i] :: xs.drop (i + 1) ∧ xs[i] ∈ xs := by
  have hi : i < xs.length := by omega
  exact ⟨hi, List.drop_eq_getElem_cons hi, List.getElem_mem hi⟩

theorem drop_end {xs : List Int} {i : Nat} (h : i + 0 = xs.length) : xs[i]? = none ∧ xs.drop i = [] := by
  have : i = xs.length := by omega
  subst this
  simp

/-- The place of the first one. -/
def idx (p : Int → Bool) : Int → List Int → Int
  | _, [] => -1
  | i, x :: r => if p x then i else idx p (i + 1) r

theorem ev_IndexFunc (xs : List Int) (c : Bool) (F : Lab) (caps : List IV) (M : List Boxes) (p : Int → Bool) (hl : xs.length ≤ 1000000)
    (hp : ∀ x ∈ xs, Ev tb F [] (I x :: caps) (M ++ [[]]) ⟨Bo (p x), [], M ++ [[]], []⟩) :
    Ev tb l_slices_IndexFunc_Sint_int_ [] [L xs c, .fn F caps] M ⟨I (idx p 0 xs), [], M, []⟩ := by
  have loop : ∀ (m i : Nat), i + m = xs.length → wp tb (.loop ic_slices_IndexFunc_Sint_int__l7) { T := [(0, L xs c), (1, .fn F caps), (7, I xs.length), (8, I i)], loc := [], M := M }
      (fun ex st => (ex = .exit 0 ∧ idx p i (xs.drop i) = -1 ∧ st = { T := [(0, L xs c), (1, .fn F caps), (7, I xs.length), (8, I xs.length), (9, Bo false)], loc := [], M := M }) ∨
        ex = .ret ∧ st = { T := [(4, I (idx p i (xs.drop i)))], loc := [], M := M }) := by
    intro m
    induction m with
    | zero =>
      intro i hi
      obtain ⟨h1, h2⟩ := drop_end hi
      have h3 : i = xs.length := hi
      subst h3
      refine wp_loop ?_
      repeat (first | refine wp_as ?_ | refine wp_ss ?_ | refine wp_rs (by simp; with_reducible rfl) (by simp; with_reducible rfl) ?_ | refine wp_reg (by simp; with_reducible rfl) (by simp; with_reducible rfl) ?_ | refine wp_ct (t := true) (by simp) (fun _ => ?_) (by intro hh; cases hh) | refine wp_ct (t := false) (by simp) (by intro hh; cases hh) (fun _ => ?_) | refine wp_c (t := true) (by simp) (fun _ => ?_) (by intro hh; cases hh) | refine wp_c (t := false) (by simp) (by intro hh; cases hh) (fun _ => ?_) | refine wp_bs ?_ | refine wp_b ?_ | refine wp_sr ?_ | refine wp_sx ?_ | refine wp_ret' ?_ | refine wp_skip' ?_ | refine wp_exit' ?_)
      refine .inl ⟨rfl, by rw [h2]; rfl, rfl⟩
    | succ m ih =>
      intro i hi
      obtain ⟨hi2, h2, h3⟩ := drop_get hi
      have e1 := ev_lim (hp _ h3)
      have w1 : IntKind.i64.wrap ((i : Int) + 1) = ((i + 1 : Nat) : Int) := wrapS (by omega)
      rw [h2]
      cases hpx : p xs[i] with
      | true =>
        refine wp_loop ?_
        repeat (first | refine wp_as ?_ | refine wp_ss ?_ | refine wp_rs (by simp [e1, hi2, w1, hpx]; with_reducible rfl) (by simp; with_reducible rfl) ?_ | refine wp_reg (by simp [e1, hi2, w1, hpx]; with_reducible rfl) (by simp; with_reducible rfl) ?_ | refine wp_ct (t := true) (by simp [e1, hi2, w1, hpx]) (fun _ => ?_) (by intro hh; cases hh) | refine wp_ct (t := false) (by simp [e1, hi2, w1, hpx]) (by intro hh; cases hh) (fun _ => ?_) | refine wp_c (t := true) (by simp [e1, hi2, w1, hpx]) (fun _ => ?_) (by intro hh; cases hh) | refine wp_c (t := false) (by simp [e1, hi2, w1, hpx]) (by intro hh; cases hh) (fun _ => ?_) | refine wp_bs ?_ | refine wp_b ?_ | refine wp_sr ?_ | refine wp_sx ?_ | refine wp_ret' ?_ | refine wp_skip' ?_ | refine wp_exit' ?_)
        refine .inr ⟨rfl, by simp [idx, hpx]⟩
      | false =>
        refine wp_loop ?_
        repeat (first | refine wp_as ?_ | refine wp_ss ?_ | refine wp_rs (by simp [e1, hi2, w1, hpx]; with_reducible rfl) (by simp; with_reducible rfl) ?_ | refine wp_reg (by simp [e1, hi2, w1, hpx]; with_reducible rfl) (by simp; with_reducible rfl) ?_ | refine wp_ct (t := true) (by simp [e1, hi2, w1, hpx]) (fun _ => ?_) (by intro hh; cases hh) | refine wp_ct (t := false) (by simp [e1, hi2, w1, hpx]) (by intro hh; cases hh) (fun _ => ?_) | refine wp_c (t := true) (by simp [e1, hi2, w1, hpx]) (fun _ => ?_) (by intro hh; cases hh) | refine wp_c (t := false) (by simp [e1, hi2, w1, hpx]) (by intro hh; cases hh) (fun _ => ?_) | refine wp_bs ?_ | refine wp_b ?_ | refine wp_sr ?_ | refine wp_sx ?_ | refine wp_ret' ?_ | refine wp_skip' ?_ | refine wp_exit' ?_)
        have := ih (i + 1) (by omega)
        simp only [idx, hpx] at this ⊢
        exact this
  refine call_of_wp tb_slices_IndexFunc_Sint_int_ rfl ?_
  repeat (first | refine wp_as ?_ | refine wp_ss ?_ | refine wp_rs (by simp; with_reducible rfl) (by simp; with_reducible rfl) ?_ | refine wp_reg (by simp; with_reducible rfl) (by simp; with_reducible rfl) ?_ | refine wp_ct (t := true) (by simp) (fun _ => ?_) (by intro hh; cases hh) | refine wp_ct (t := false) (by simp) (by intro hh; cases hh) (fun _ => ?_) | refine wp_c (t := true) (by simp) (fun _ => ?_) (by intro hh; cases hh) | refine wp_c (t := false) (by simp) (by intro hh; cases hh) (fun _ => ?_) | refine wp_bs ?_ | refine wp_b ?_ | refine wp_sr ?_ | refine wp_sx ?_ | refine wp_ret' ?_ | refine wp_skip' ?_ | refine wp_exit' ?_)
  refine wp_imp (loop xs.length 0 (by simp)) ?_
  rintro ex st (⟨rfl, h, rfl⟩ | ⟨rfl, rfl⟩)
  · simp only [if_true]
    repeat (first | refine wp_as ?_ | refine wp_ss ?_ | refine wp_rs (by simp; with_reducible rfl) (by simp; with_reducible rfl) ?_ | refine wp_reg (by simp; with_reducible rfl) (by simp; with_reducible rfl) ?_ | refine wp_ct (t := true) (by simp) (fun _ => ?_) (by intro hh; cases hh) | refine wp_ct (t := false) (by simp) (by intro hh; cases hh) (fun _ => ?_) | refine wp_c (t := true) (by simp) (fun _ => ?_) (by intro hh; cases hh) | refine wp_c (t := false) (by simp) (by intro hh; cases hh) (fun _ => ?_) | refine wp_bs ?_ | refine wp_b ?_ | refine wp_sr ?_ | refine wp_sx ?_ | refine wp_ret' ?_ | refine wp_skip' ?_ | refine wp_exit' ?_)
    simp at h
    simp [if_slices_IndexFunc_Sint_int_, h]
  · simp [if_slices_IndexFunc_Sint_int_]

end Go.Idl

namespace Go.Idl

open Go

theorem ev_allIn_F1 (x lo hi : Int) : Ev tb l_impl_allIn_F1 [] [I x, .bptr 0 0 0, .bptr 0 1 0] [[[I lo], [I hi]], [], []] ⟨Bo (!(decide (lo ≤ x) && decide (x ≤ hi))), [], [[[I lo], [I hi]], [], []], []⟩ := by
  have e1 := ev_lim (ev_in x lo hi)
  refine call_of_wp tb_impl_allIn_F1 rfl ?_
  repeat (first | refine wp_as ?_ | refine wp_ss ?_ | refine wp_rs (by simp [e1]; with_reducible rfl) (by simp; with_reducible rfl) ?_ | refine wp_reg (by simp [e1]; with_reducible rfl) (by simp; with_reducible rfl) ?_ | refine wp_ct (t := true) (by simp [e1]) (fun _ => ?_) (by intro hh; cases hh) | refine wp_ct (t := false) (by simp [e1]) (by intro hh; cases hh) (fun _ => ?_) | refine wp_c (t := true) (by simp [e1]) (fun _ => ?_) (by intro hh; cases hh) | refine wp_c (t := false) (by simp [e1]) (by intro hh; cases hh) (fun _ => ?_) | refine wp_bs ?_ | refine wp_b ?_ | refine wp_sr ?_ | refine wp_sx ?_ | refine wp_ret' ?_ | refine wp_skip' ?_ | refine wp_exit' ?_)
  simp [if_impl_allIn_F1]

theorem ev_ContainsFunc (xs : List Int) (c : Bool) (F : Lab) (caps : List IV) (M : List Boxes) (p : Int → Bool) (hl : xs.length ≤ 1000000)
    (hp : ∀ x ∈ xs, Ev tb F [] (I x :: caps) (M ++ [[], []]) ⟨Bo (p x), [], M ++ [[], []], []⟩) :
    Ev tb l_slices_ContainsFunc_Sint_int_ [] [L xs c, .fn F caps] M ⟨Bo (decide (0 ≤ idx p 0 xs)), [], M, []⟩ := by
  have e1 := ev_lim (ev_IndexFunc xs c F caps (M ++ [[]]) p hl (by simpa using hp))
  refine call_of_wp tb_slices_ContainsFunc_Sint_int_ rfl ?_
  repeat (first | refine wp_as ?_ | refine wp_ss ?_ | refine wp_rs (by simp [e1]; with_reducible rfl) (by simp; with_reducible rfl) ?_ | refine wp_reg (by simp [e1]; with_reducible rfl) (by simp; with_reducible rfl) ?_ | refine wp_ct (t := true) (by simp [e1]) (fun _ => ?_) (by intro hh; cases hh) | refine wp_ct (t := false) (by simp [e1]) (by intro hh; cases hh) (fun _ => ?_) | refine wp_c (t := true) (by simp [e1]) (fun _ => ?_) (by intro hh; cases hh) | refine wp_c (t := false) (by simp [e1]) (by intro hh; cases hh) (fun _ => ?_) | refine wp_bs ?_ | refine wp_b ?_ | refine wp_sr ?_ | refine wp_sx ?_ | refine wp_ret' ?_ | refine wp_skip' ?_ | refine wp_exit' ?_)
  simp [if_slices_ContainsFunc_Sint_int_]

theorem idx_ge (p : Int → Bool) : ∀ (xs : List Int) (i : Int), 0 ≤ i → (decide (0 ≤ idx p i xs) = xs.any p)
  | [], i, h => by simp [idx]
  | x :: r, i, h => by
    unfold idx
    cases hp : p x with
    | true => simp [hp, h]
    | false => simp [hp]; simpa using idx_ge p r (i + 1) (by omega)

theorem ev_allIn (xs : List Int) (c : Bool) (lo hi : Int) (hl : xs.length ≤ 1000000) :
    Ev tb l_impl_allIn [] [L xs c, I lo, I hi] [] ⟨Bo (xs.all fun x => decide (lo ≤ x) && decide (x ≤ hi)), [], [], []⟩ := by
  have e1 := ev_lim (ev_ContainsFunc xs c l_impl_allIn_F1 [.bptr 0 0 0, .bptr 0 1 0] [[[I lo], [I hi]]] _ hl (fun x _ => ev_allIn_F1 x lo hi))
  refine call_of_wp tb_impl_allIn rfl ?_
  repeat (first | refine wp_as ?_ | refine wp_ss ?_ | refine wp_rs (by simp [e1, idx_ge]; with_reducible rfl) (by simp; with_reducible rfl) ?_ | refine wp_reg (by simp [e1, idx_ge]; with_reducible rfl) (by simp; with_reducible rfl) ?_ | refine wp_ct (t := true) (by simp [e1, idx_ge]) (fun _ => ?_) (by intro hh; cases hh) | refine wp_ct (t := false) (by simp [e1, idx_ge]) (by intro hh; cases hh) (fun _ => ?_) | refine wp_c (t := true) (by simp [e1, idx_ge]) (fun _ => ?_) (by intro hh; cases hh) | refine wp_c (t := false) (by simp [e1, idx_ge]) (by intro hh; cases hh) (fun _ => ?_) | refine wp_bs ?_ | refine wp_b ?_ | refine wp_sr ?_ | refine wp_sx ?_ | refine wp_ret' ?_ | refine wp_skip' ?_ | refine wp_exit' ?_)
  simp [if_impl_allIn, List.all_eq_not_any_not]

theorem ev_copyInts (xs : List Int) (c : Bool) (hl : xs.length ≤ 1000000) : Ev tb l_spec_copyInts [] [L xs c] [] ⟨O xs, [], [], []⟩ := by
  refine call_of_wp tb_spec_copyInts rfl ?_
  repeat (first | refine wp_as ?_ | refine wp_ss ?_ | refine wp_rs (by simp [show xs.length ≤ 274877906944 by omega]; with_reducible rfl) (by simp; with_reducible rfl) ?_ | refine wp_reg (by simp [show xs.length ≤ 274877906944 by omega]; with_reducible rfl) (by simp; with_reducible rfl) ?_ | refine wp_ct (t := true) (by simp [show xs.length ≤ 274877906944 by omega]) (fun _ => ?_) (by intro hh; cases hh) | refine wp_ct (t := false) (by simp [show xs.length ≤ 274877906944 by omega]) (by intro hh; cases hh) (fun _ => ?_) | refine wp_c (t := true) (by simp [show xs.length ≤ 274877906944 by omega]) (fun _ => ?_) (by intro hh; cases hh) | refine wp_c (t := false) (by simp [show xs.length ≤ 274877906944 by omega]) (by intro hh; cases hh) (fun _ => ?_) | refine wp_bs ?_ | refine wp_b ?_ | refine wp_sr ?_ | refine wp_sx ?_ | refine wp_ret' ?_ | refine wp_skip' ?_ | refine wp_exit' ?_)
  simp [if_spec_copyInts]

theorem ev_equalInts (xs ys : List Int) (c d : Bool) (hl : xs.length ≤ 1000000) (hm : ys.length ≤ 1000000) : Ev tb l_laws_equalInts [] [L xs c, L ys d] [] ⟨Bo (decide (xs = ys)), [], [], []⟩ := by
  by_cases he : xs.length = ys.length
  · have loop : ∀ (m i : Nat), i + m = xs.length → wp tb (.loop ic_laws_equalInts_l8) { T := [(0, L xs c), (1, L ys d), (5, I i)], loc := [], M := [] }
      (fun ex st => (ex = .exit 0 ∧ xs.drop i = ys.drop i ∧ st = { T := [(0, L xs c), (1, L ys d), (5, I xs.length), (14, Bo false)], loc := [], M := [] }) ∨
        ex = .ret ∧ xs.drop i ≠ ys.drop i ∧ st = { T := [(4, Bo false)], loc := [], M := [] }) := by
      intro m
      induction m with
      | zero =>
        intro i hi
        obtain ⟨h1, h2⟩ := drop_end hi
        obtain ⟨h1', h2'⟩ := drop_end (he ▸ hi)
        have h3 : i = xs.length := hi
        subst h3
        refine wp_loop ?_
        repeat (first | refine wp_as ?_ | refine wp_ss ?_ | refine wp_rs (by simp; with_reducible rfl) (by simp; with_reducible rfl) ?_ | refine wp_reg (by simp; with_reducible rfl) (by simp; with_reducible rfl) ?_ | refine wp_ct (t := true) (by simp) (fun _ => ?_) (by intro hh; cases hh) | refine wp_ct (t := false) (by simp) (by intro hh; cases hh) (fun _ => ?_) | refine wp_c (t := true) (by simp) (fun _ => ?_) (by intro hh; cases hh) | refine wp_c (t := false) (by simp) (by intro hh; cases hh) (fun _ => ?_) | refine wp_bs ?_ | refine wp_b ?_ | refine wp_sr ?_ | refine wp_sx ?_ | refine wp_ret' ?_ | refine wp_skip' ?_ | refine wp_exit' ?_)
        refine .inl ⟨rfl, by rw [h2, h2'], rfl⟩
      | succ m ih =>
        intro i hi
        obtain ⟨hi2, h2, h3⟩ := drop_get hi
        obtain ⟨hi2', h2', h3'⟩ := drop_get (he ▸ hi)
        have w2 : IntKind.i64.wrap ((i : Int) + 1) = ((i + 1 : Nat) : Int) := wrapS (by omega)
        rw [h2, h2']
        by_cases hx : xs[i] = ys[i]
        · refine wp_loop ?_
          repeat (first | refine wp_as ?_ | refine wp_ss ?_ | refine wp_rs (by simp [hi2, hi2', w2, hx]; with_reducible rfl) (by simp; with_reducible rfl) ?_ | refine wp_reg (by simp [hi2, hi2', w2, hx]; with_reducible rfl) (by simp; with_reducible rfl) ?_ | refine wp_ct (t := true) (by simp [hi2, hi2', w2, hx]) (fun _ => ?_) (by intro hh; cases hh) | refine wp_ct (t := false) (by simp [hi2, hi2', w2, hx]) (by intro hh; cases hh) (fun _ => ?_) | refine wp_c (t := true) (by simp [hi2, hi2', w2, hx]) (fun _ => ?_) (by intro hh; cases hh) | refine wp_c (t := false) (by simp [hi2, hi2', w2, hx]) (by intro hh; cases hh) (fun _ => ?_) | refine wp_bs ?_ | refine wp_b ?_ | refine wp_sr ?_ | refine wp_sx ?_ | refine wp_ret' ?_ | refine wp_skip' ?_ | refine wp_exit' ?_)
          have := ih (i + 1) (by omega)
          simp only [List.cons.injEq, true_and, ne_eq, hx] at this ⊢
          exact this
        · refine wp_loop ?_
          repeat (first | refine wp_as ?_ | refine wp_ss ?_ | refine wp_rs (by simp [hi2, hi2', w2, hx]; with_reducible rfl) (by simp; with_reducible rfl) ?_ | refine wp_reg (by simp [hi2, hi2', w2, hx]; with_reducible rfl) (by simp; with_reducible rfl) ?_ | refine wp_ct (t := true) (by simp [hi2, hi2', w2, hx]) (fun _ => ?_) (by intro hh; cases hh) | refine wp_ct (t := false) (by simp [hi2, hi2', w2, hx]) (by intro hh; cases hh) (fun _ => ?_) | refine wp_c (t := true) (by simp [hi2, hi2', w2, hx]) (fun _ => ?_) (by intro hh; cases hh) | refine wp_c (t := false) (by simp [hi2, hi2', w2, hx]) (by intro hh; cases hh) (fun _ => ?_) | refine wp_bs ?_ | refine wp_b ?_ | refine wp_sr ?_ | refine wp_sx ?_ | refine wp_ret' ?_ | refine wp_skip' ?_ | refine wp_exit' ?_)
          refine .inr ⟨rfl, by simp only [ne_eq, List.cons.injEq, hx, false_and, not_false_eq_true], rfl⟩
    refine call_of_wp tb_laws_equalInts rfl ?_
    repeat (first | refine wp_as ?_ | refine wp_ss ?_ | refine wp_rs (by simp [he]; with_reducible rfl) (by simp; with_reducible rfl) ?_ | refine wp_reg (by simp [he]; with_reducible rfl) (by simp; with_reducible rfl) ?_ | refine wp_ct (t := true) (by simp [he]) (fun _ => ?_) (by intro hh; cases hh) | refine wp_ct (t := false) (by simp [he]) (by intro hh; cases hh) (fun _ => ?_) | refine wp_c (t := true) (by simp [he]) (fun _ => ?_) (by intro hh; cases hh) | refine wp_c (t := false) (by simp [he]) (by intro hh; cases hh) (fun _ => ?_) | refine wp_bs ?_ | refine wp_b ?_ | refine wp_sr ?_ | refine wp_sx ?_ | refine wp_ret' ?_ | refine wp_skip' ?_ | refine wp_exit' ?_)
    refine wp_imp (loop xs.length 0 (by simp)) ?_
    rintro ex st (⟨rfl, h, rfl⟩ | ⟨rfl, h, rfl⟩)
    · simp only [if_true]
      repeat (first | refine wp_as ?_ | refine wp_ss ?_ | refine wp_rs (by simp; with_reducible rfl) (by simp; with_reducible rfl) ?_ | refine wp_reg (by simp; with_reducible rfl) (by simp; with_reducible rfl) ?_ | refine wp_ct (t := true) (by simp) (fun _ => ?_) (by intro hh; cases hh) | refine wp_ct (t := false) (by simp) (by intro hh; cases hh) (fun _ => ?_) | refine wp_c (t := true) (by simp) (fun _ => ?_) (by intro hh; cases hh) | refine wp_c (t := false) (by simp) (by intro hh; cases hh) (fun _ => ?_) | refine wp_bs ?_ | refine wp_b ?_ | refine wp_sr ?_ | refine wp_sx ?_ | refine wp_ret' ?_ | refine wp_skip' ?_ | refine wp_exit' ?_)
      simp only [List.drop_zero] at h
      simp [if_laws_equalInts, h]
    · simp only [List.drop_zero] at h
      simp [if_laws_equalInts, h]
  · have hne : xs ≠ ys := fun h => he (by rw [h])
    have h2 : ((xs.length : Int) = ys.length) ↔ xs.length = ys.length := by omega
    refine call_of_wp tb_laws_equalInts rfl ?_
    repeat (first | refine wp_as ?_ | refine wp_ss ?_ | refine wp_rs (by simp [he, h2]; with_reducible rfl) (by simp; with_reducible rfl) ?_ | refine wp_reg (by simp [he, h2]; with_reducible rfl) (by simp; with_reducible rfl) ?_ | refine wp_ct (t := true) (by simp [he, h2]) (fun _ => ?_) (by intro hh; cases hh) | refine wp_ct (t := false) (by simp [he, h2]) (by intro hh; cases hh) (fun _ => ?_) | refine wp_c (t := true) (by simp [he, h2]) (fun _ => ?_) (by intro hh; cases hh) | refine wp_c (t := false) (by simp [he, h2]) (by intro hh; cases hh) (fun _ => ?_) | refine wp_bs ?_ | refine wp_b ?_ | refine wp_sr ?_ | refine wp_sx ?_ | refine wp_ret' ?_ | refine wp_skip' ?_ | refine wp_exit' ?_)
    simp [if_laws_equalInts, hne]

end Go.Idl

namespace Go.Idl

theorem sumB {B : Int} (hB : 0 ≤ B) : ∀ {xs : List Int}, (∀ x ∈ xs, 0 ≤ x ∧ x ≤ B) → 0 ≤ xs.sum ∧ xs.sum ≤ B * xs.length
  | [], _ => by simp
  | x :: r, h => by
    have h1 := h x (by simp)
    have h2 := sumB hB (xs := r) (fun y hy => h y (by simp [hy]))
    have e : B * ((x :: r).length : Int) = B * r.length + B := by
      rw [List.length_cons, Int.natCast_add, Int.mul_add]; simp
    rw [List.sum_cons, e]
    omega

/-- The least one of numbers and 0. -/
def least (xs : List Int) : Int := xs.foldl (fun n x => min n x) 0

end Go.Idl

namespace Go.Idl

open Go

/-- No list. -/
abbrev Z : IV := .lst 0 [] true

/-- Few small numbers. -/
def Few (xs : List Int) : Prop := xs.length ≤ 7 ∧ ∀ x ∈ xs, 0 ≤ x ∧ x ≤ 6

theorem Few.small {xs : List Int} (h : Few xs) : SmallSum xs := by
  refine ⟨by have := h.1; omega, fun k => ?_⟩
  have h1 := sumB (B := 6) (by omega) (xs := xs.take k) (fun x hx => h.2 x (List.mem_of_mem_take hx))
  have h2 : (xs.take k).length ≤ 7 := by have := h.1; simp; omega
  omega

theorem Few.take {xs : List Int} (h : Few xs) (k : Nat) : Few (xs.take k) := ⟨by have := h.1; simp; omega, fun x hx => h.2 x (List.mem_of_mem_take hx)⟩

theorem Few.drop {xs : List Int} (h : Few xs) (k : Nat) : Few (xs.drop k) := ⟨by have := h.1; simp; omega, fun x hx => h.2 x (List.mem_of_mem_drop hx)⟩

theorem Few.fall {xs : List Int} (h : Few xs) : Few (fall xs) := ⟨by rw [fall_len]; exact h.1, fun x hx => h.2 x (fall_mem.1 hx)⟩

theorem Few.sum {xs : List Int} (h : Few xs) : 0 ≤ xs.sum ∧ xs.sum ≤ 42 := by
  have h1 := sumB (B := 6) (by omega) h.2
  have := h.1
  omega

/-- What 'each' makes. -/
def mapR (n : Nat) (g : Nat → Int) : List Int := (List.range n).map g

theorem mapR_succ_set {n i : Nat} (g : Nat → Int) (h : i < n) : (mapR i g ++ List.replicate (n - i) 0).set i (g i) = mapR (i + 1) g ++ List.replicate (n - (i + 1)) 0 := by
  have e : n - i = (n - (i + 1)) + 1 := by omega
  rw [e, List.replicate_succ, List.set_append_right _ _ (by simp [mapR])]
  simp [mapR, List.range_succ]

@[simp] theorem ints_rep (n : Nat) : List.replicate n [IV.sc (.int .i64 0)] = ints (List.replicate n 0) := by simp [ints]

end Go.Idl

namespace Go.Idl

open Go

def tab (t : List (List Int)) : List (List IV) := t.map fun r => [.lst 1 (ints r) false]

def oab (t : List (List Int)) : List (List IV) := t.map fun r => [.own 1 (ints r)]

abbrev TL (t : List (List Int)) (c : Bool := false) : IV := .lst 1 (tab t) c

abbrev OT (t : List (List Int)) : IV := .own 1 (oab t)

@[simp] theorem tab_len (t : List (List Int)) : (tab t).length = t.length := by simp [tab]

@[simp] theorem oab_len (t : List (List Int)) : (oab t).length = t.length := by simp [oab]

@[simp] theorem oab_nil : oab [] = [] := rfl

@[simp] theorem tab_get? (t : List (List Int)) (i : Nat) : (tab t)[i]? = t[i]?.map fun r => [IV.lst 1 (ints r) false] := by simp [tab]

@[simp] theorem tab_get (t : List (List Int)) (i : Nat) (h : i < (tab t).length) : (tab t)[i] = [IV.lst 1 (ints (t[i]'(by simpa [tab] using h))) false] := by simp [tab]

@[simp] theorem oab_get? (t : List (List Int)) (i : Nat) : (oab t)[i]? = t[i]?.map fun r => [IV.own 1 (ints r)] := by simp [oab]

@[simp] theorem oab_get (t : List (List Int)) (i : Nat) (h : i < (oab t).length) : (oab t)[i] = [IV.own 1 (ints (t[i]'(by simpa [oab] using h)))] := by simp [oab]

@[simp] theorem oab_one (t : List (List Int)) (r : List Int) : oab t ++ [[IV.own 1 (ints r)]] = oab (t ++ [r]) := by simp [oab]

@[simp] theorem oab_set (t : List (List Int)) (i : Nat) (r : List Int) : (oab t).set i [IV.own 1 (ints r)] = oab (t.set i r) := by simp [oab, List.map_set]

@[simp] theorem oab_take (t : List (List Int)) (n : Nat) : (oab t).take n = oab (t.take n) := by simp [oab, List.map_take]

@[simp] theorem frz_oab (t : List (List Int)) : frzLL (oab t) = tab t := by
  induction t with
  | nil => rfl
  | cons x xs ih =>
    simp only [oab, tab, List.map_cons, frzLL, frzL, frzV] at *
    rw [ih]
    have : frzLL (ints x) = ints x := by
      clear ih
      induction x with
      | nil => rfl
      | cons y ys ih => simp only [ints, List.map_cons, frzLL, frzL, frzV] at *; rw [ih]
    rw [this]

@[simp] theorem tab_all1 (t : List (List Int)) : ((tab t).all fun x => x.all IV.plain1) = true := by
  induction t with
  | nil => rfl
  | cons x xs ih => simp only [tab, List.map_cons, List.all_cons] at *; rw [ih]; rfl

theorem drop_getA {α} {xs : List α} {i m : Nat} (h : i + (m + 1) = xs.length) : ∃ h : i < xs.length, xs.drop i = xs[i] :: xs.drop (i + 1) ∧ xs[i] ∈ xs := by
  have hi : i < xs.length := by omega
  exact ⟨hi, List.drop_eq_getElem_cons hi, List.getElem_mem hi⟩

theorem drop_endA {α} {xs : List α} {i : Nat} (h : i + 0 = xs.length) : xs[i]? = none ∧ xs.drop i = [] := by
  have : i = xs.length := by omega
  subst this
  simp

/-- An entry. -/
def g2 (t : List (List Int)) (a b : Nat) : Int := (t.getD a []).getD b 0

def rowOk (w : Nat) (r : List Int) : Bool := decide (r.length = w) && (decide (1 ≤ (r.length : Int)) && decide ((r.length : Int) ≤ 5)) && r.all fun x => decide (0 ≤ x) && decide (x ≤ 1)

/-- A matrix of zeros and ones, not great. -/
def mOk (t : List (List Int)) : Bool := (t.all (rowOk (t.getD 0 []).length)) && (decide (1 ≤ (t.length : Int)) && decide ((t.length : Int) ≤ 5))

theorem ev_ValidMatrix (t : List (List Int)) (c : Bool) (hl : t.length ≤ 1000000) (hr : ∀ r ∈ t, r.length ≤ 1000000) :
    Ev tb l_impl_ValidMatrix [] [TL t c] [] ⟨Bo (mOk t), [], [], []⟩ := by
  have loop : ∀ (m i : Nat), i + m = t.length → wp tb (.loop ic_impl_ValidMatrix_l7) { T := [(0, TL t c), (5, TL t c), (6, I t.length), (7, I i)], loc := [], M := [] }
      (fun ex st => (ex = .exit 0 ∧ ((t.drop i).all (rowOk (t.getD 0 []).length)) = true ∧ st = { T := [(0, TL t c), (5, TL t c), (6, I t.length), (7, I t.length), (8, Bo false)], loc := [], M := [] }) ∨
        ex = .ret ∧ ((t.drop i).all (rowOk (t.getD 0 []).length)) = false ∧ st = { T := [(2, Bo false)], loc := [], M := [] }) := by
    intro m
    induction m with
    | zero =>
      intro i hi
      obtain ⟨h1, h2⟩ := drop_endA hi
      have h3 : i = t.length := hi
      subst h3
      refine wp_loop ?_
      repeat (first | refine wp_as ?_ | refine wp_ss ?_ | refine wp_rs (by simp; with_reducible rfl) (by simp; with_reducible rfl) ?_ | refine wp_reg (by simp; with_reducible rfl) (by simp; with_reducible rfl) ?_ | (refine wp_ct (t := true) ?_ (fun _ => ?_) (fun hh => nomatch hh); focus (simp; done)) | (refine wp_ct (t := false) ?_ (fun hh => nomatch hh) (fun _ => ?_); focus (simp; done)) | (refine wp_c (t := true) ?_ (fun _ => ?_) (fun hh => nomatch hh); focus (simp; done)) | (refine wp_c (t := false) ?_ (fun hh => nomatch hh) (fun _ => ?_); focus (simp; done)) | refine wp_bs ?_ | refine wp_b ?_ | refine wp_sr ?_ | refine wp_sx ?_ | refine wp_ret' ?_ | refine wp_skip' ?_ | refine wp_exit' ?_)
      refine .inl ⟨rfl, by rw [h2]; rfl, rfl⟩
    | succ m ih =>
      intro i hi
      obtain ⟨hi2, h2, h3⟩ := drop_getA hi
      have w2 : IntKind.i64.wrap ((i : Int) + 1) = ((i + 1 : Nat) : Int) := wrapS (by omega)
      have h0 : 0 < t.length := by omega
      have e1 := ev_lim (ev_in (t[i].length : Int) 1 5)
      have e2 := ev_lim (ev_allIn t[i] false 0 1 (hr _ (List.getElem_mem hi2)))
      have hg : (t.getD 0 []).length = t[0].length := by simp [List.getD_eq_getElem?_getD, List.getElem?_eq_getElem h0]
      rw [h2]
      by_cases ha : t[i].length = t[0].length
      rotate_left
      · refine wp_loop ?_
        repeat (first | refine wp_as ?_ | refine wp_ss ?_ | refine wp_rs (by simp [hi2, h0, Int.ofNat_inj, ha]; with_reducible rfl) (by simp; with_reducible rfl) ?_ | refine wp_reg (by simp [hi2, h0, Int.ofNat_inj, ha]; with_reducible rfl) (by simp; with_reducible rfl) ?_ | (refine wp_ct (t := true) ?_ (fun _ => ?_) (fun hh => nomatch hh); focus (simp [hi2, h0, Int.ofNat_inj, ha]; done)) | (refine wp_ct (t := false) ?_ (fun hh => nomatch hh) (fun _ => ?_); focus (simp [hi2, h0, Int.ofNat_inj, ha]; done)) | (refine wp_c (t := true) ?_ (fun _ => ?_) (fun hh => nomatch hh); focus (simp [hi2, h0, Int.ofNat_inj, ha]; done)) | (refine wp_c (t := false) ?_ (fun hh => nomatch hh) (fun _ => ?_); focus (simp [hi2, h0, Int.ofNat_inj, ha]; done)) | refine wp_bs ?_ | refine wp_b ?_ | refine wp_sr ?_ | refine wp_sx ?_ | refine wp_ret' ?_ | refine wp_skip' ?_ | refine wp_exit' ?_)
        refine .inr ⟨rfl, by simp only [List.all_cons, rowOk, hg, ha, decide_false, Bool.false_and], rfl⟩
      cases hb : (decide (1 ≤ (t[i].length : Int)) && decide ((t[i].length : Int) ≤ 5)) with
      | false =>
        rw [hb] at e1
        refine wp_loop ?_
        repeat (first | refine wp_as ?_ | refine wp_ss ?_ | refine wp_rs (by simp [hi2, h0, Int.ofNat_inj, ← ha, e1]; with_reducible rfl) (by simp; with_reducible rfl) ?_ | refine wp_reg (by simp [hi2, h0, Int.ofNat_inj, ← ha, e1]; with_reducible rfl) (by simp; with_reducible rfl) ?_ | (refine wp_ct (t := true) ?_ (fun _ => ?_) (fun hh => nomatch hh); focus (simp [hi2, h0, Int.ofNat_inj, ← ha, e1]; done)) | (refine wp_ct (t := false) ?_ (fun hh => nomatch hh) (fun _ => ?_); focus (simp [hi2, h0, Int.ofNat_inj, ← ha, e1]; done)) | (refine wp_c (t := true) ?_ (fun _ => ?_) (fun hh => nomatch hh); focus (simp [hi2, h0, Int.ofNat_inj, ← ha, e1]; done)) | (refine wp_c (t := false) ?_ (fun hh => nomatch hh) (fun _ => ?_); focus (simp [hi2, h0, Int.ofNat_inj, ← ha, e1]; done)) | refine wp_bs ?_ | refine wp_b ?_ | refine wp_sr ?_ | refine wp_sx ?_ | refine wp_ret' ?_ | refine wp_skip' ?_ | refine wp_exit' ?_)
        refine .inr ⟨rfl, by simp only [List.all_cons, rowOk, hb, Bool.false_and, Bool.and_false], rfl⟩
      | true =>
      rw [hb] at e1
      cases hc : (t[i].all fun x => decide (0 ≤ x) && decide (x ≤ 1)) with
      | false =>
        rw [hc] at e2
        refine wp_loop ?_
        repeat (first | refine wp_as ?_ | refine wp_ss ?_ | refine wp_rs (by simp [hi2, h0, Int.ofNat_inj, ← ha, e1, e2]; with_reducible rfl) (by simp; with_reducible rfl) ?_ | refine wp_reg (by simp [hi2, h0, Int.ofNat_inj, ← ha, e1, e2]; with_reducible rfl) (by simp; with_reducible rfl) ?_ | (refine wp_ct (t := true) ?_ (fun _ => ?_) (fun hh => nomatch hh); focus (simp [hi2, h0, Int.ofNat_inj, ← ha, e1, e2]; done)) | (refine wp_ct (t := false) ?_ (fun hh => nomatch hh) (fun _ => ?_); focus (simp [hi2, h0, Int.ofNat_inj, ← ha, e1, e2]; done)) | (refine wp_c (t := true) ?_ (fun _ => ?_) (fun hh => nomatch hh); focus (simp [hi2, h0, Int.ofNat_inj, ← ha, e1, e2]; done)) | (refine wp_c (t := false) ?_ (fun hh => nomatch hh) (fun _ => ?_); focus (simp [hi2, h0, Int.ofNat_inj, ← ha, e1, e2]; done)) | refine wp_bs ?_ | refine wp_b ?_ | refine wp_sr ?_ | refine wp_sx ?_ | refine wp_ret' ?_ | refine wp_skip' ?_ | refine wp_exit' ?_)
        refine .inr ⟨rfl, by simp only [List.all_cons, rowOk, hc, Bool.false_and, Bool.and_false], rfl⟩
      | true =>
        rw [hc] at e2
        refine wp_loop ?_
        repeat (first | refine wp_as ?_ | refine wp_ss ?_ | refine wp_rs (by simp [hi2, h0, Int.ofNat_inj, ← ha, e1, e2, w2]; with_reducible rfl) (by simp; with_reducible rfl) ?_ | refine wp_reg (by simp [hi2, h0, Int.ofNat_inj, ← ha, e1, e2, w2]; with_reducible rfl) (by simp; with_reducible rfl) ?_ | (refine wp_ct (t := true) ?_ (fun _ => ?_) (fun hh => nomatch hh); focus (simp [hi2, h0, Int.ofNat_inj, ← ha, e1, e2, w2]; done)) | (refine wp_ct (t := false) ?_ (fun hh => nomatch hh) (fun _ => ?_); focus (simp [hi2, h0, Int.ofNat_inj, ← ha, e1, e2, w2]; done)) | (refine wp_c (t := true) ?_ (fun _ => ?_) (fun hh => nomatch hh); focus (simp [hi2, h0, Int.ofNat_inj, ← ha, e1, e2, w2]; done)) | (refine wp_c (t := false) ?_ (fun hh => nomatch hh) (fun _ => ?_); focus (simp [hi2, h0, Int.ofNat_inj, ← ha, e1, e2, w2]; done)) | refine wp_bs ?_ | refine wp_b ?_ | refine wp_sr ?_ | refine wp_sx ?_ | refine wp_ret' ?_ | refine wp_skip' ?_ | refine wp_exit' ?_)
        have := ih (i + 1) (by omega)
        have hro : rowOk (t.getD 0 []).length t[i] = true := by simp only [rowOk, hg, ← ha, hb, hc, decide_true, Bool.and_true]
        simp only [List.all_cons, hro, Bool.true_and] at this ⊢
        exact this
  have e1 := ev_lim (ev_in (t.length : Int) 1 5)
  refine call_of_wp tb_impl_ValidMatrix rfl ?_
  repeat (first | refine wp_as ?_ | refine wp_ss ?_ | refine wp_rs (by simp; with_reducible rfl) (by simp; with_reducible rfl) ?_ | refine wp_reg (by simp; with_reducible rfl) (by simp; with_reducible rfl) ?_ | (refine wp_ct (t := true) ?_ (fun _ => ?_) (fun hh => nomatch hh); focus (simp; done)) | (refine wp_ct (t := false) ?_ (fun hh => nomatch hh) (fun _ => ?_); focus (simp; done)) | (refine wp_c (t := true) ?_ (fun _ => ?_) (fun hh => nomatch hh); focus (simp; done)) | (refine wp_c (t := false) ?_ (fun hh => nomatch hh) (fun _ => ?_); focus (simp; done)) | refine wp_bs ?_ | refine wp_b ?_ | refine wp_sr ?_ | refine wp_sx ?_ | refine wp_ret' ?_ | refine wp_skip' ?_ | refine wp_exit' ?_)
  refine wp_imp (loop t.length 0 (by simp)) ?_
  rintro ex st (⟨rfl, h, rfl⟩ | ⟨rfl, h, rfl⟩)
  · simp only [if_true]
    repeat (first | refine wp_as ?_ | refine wp_ss ?_ | refine wp_rs (by simp [e1]; with_reducible rfl) (by simp; with_reducible rfl) ?_ | refine wp_reg (by simp [e1]; with_reducible rfl) (by simp; with_reducible rfl) ?_ | (refine wp_ct (t := true) ?_ (fun _ => ?_) (fun hh => nomatch hh); focus (simp [e1]; done)) | (refine wp_ct (t := false) ?_ (fun hh => nomatch hh) (fun _ => ?_); focus (simp [e1]; done)) | (refine wp_c (t := true) ?_ (fun _ => ?_) (fun hh => nomatch hh); focus (simp [e1]; done)) | (refine wp_c (t := false) ?_ (fun hh => nomatch hh) (fun _ => ?_); focus (simp [e1]; done)) | refine wp_bs ?_ | refine wp_b ?_ | refine wp_sr ?_ | refine wp_sx ?_ | refine wp_ret' ?_ | refine wp_skip' ?_ | refine wp_exit' ?_)
    simp only [List.drop_zero] at h
    simp only [mOk, h]
    simp [if_impl_ValidMatrix]
  · simp only [List.drop_zero] at h
    simp only [mOk, h]
    simp [if_impl_ValidMatrix]

end Go.Idl

namespace Go.Idl

open Go

/-- A table that is square, of zeros and ones. -/
def Sq (t : List (List Int)) : Prop := ∀ r ∈ t, r.length = t.length ∧ ∀ x ∈ r, 0 ≤ x ∧ x ≤ 1

def tAt (t : List (List Int)) (a b : Nat) : Prop := if a = b then g2 t a b = 0 else g2 t a b + g2 t b a = 1

/-- A tournament. -/
def Tour (t : List (List Int)) : Prop := (1 ≤ t.length ∧ t.length ≤ 5) ∧ Sq t ∧ ∀ a b : Nat, a < t.length → b < t.length → tAt t a b

open Classical in

noncomputable def vT (t : List (List Int)) : Bool := decide (Tour t)

theorem vT_eq {t : List (List Int)} {b : Bool} (h : b = true ↔ Tour t) : b = vT t := by
  unfold vT
  by_cases ht : Tour t
  · rw [h.2 ht]; simp [ht]
  · cases b with
    | true => exact absurd (h.1 rfl) ht
    | false => simp [ht]

theorem vT_true {t : List (List Int)} : vT t = true ↔ Tour t := by unfold vT; simp

theorem vT_false {t : List (List Int)} : vT t = false ↔ ¬ Tour t := by unfold vT; simp

theorem g2_eq {t : List (List Int)} {a b : Nat} (ha : a < t.length) (hb : b < t[a].length) : g2 t a b = t[a][b] := by
  simp [g2, List.getD_eq_getElem?_getD, List.getElem?_eq_getElem ha, List.getElem?_eq_getElem hb]

/-- Rows are of one length, of small numbers. -/
def Sqr (n : Nat) (t : List (List Int)) : Prop := t.length = n ∧ n ≤ 1000000 ∧ ∀ r ∈ t, r.length = n ∧ ∀ x ∈ r, -1000 ≤ x ∧ x ≤ 1000

theorem vt_in (n : Nat) (t : List (List Int)) (c : Bool) (hs : Sqr n t) (a : Nat) (ha : a < n) : ∀ (m b : Nat), b + m = n →
    wp tb (.loop ic_impl_ValidTournament_l12) { T := [(0, TL t c), (3, I a), (18, I n), (19, I a), (23, I n), (24, I b)], loc := [], M := [] }
      (fun ex st => (ex = .exit 2 ∧ (∀ k, b ≤ k → k < n → tAt t a k) ∧ st = { T := [(0, TL t c), (3, I a), (18, I n), (19, I a), (23, I n), (24, I n), (25, Bo false)], loc := [], M := [] }) ∨
        ex = .ret ∧ (∃ k, k < n ∧ ¬ tAt t a k) ∧ st = { T := [(2, Bo false)], loc := [], M := [] }) := by
  intro m
  induction m with
  | zero =>
    intro b hb
    have h3 : b = n := hb
    subst h3
    refine wp_loop ?_
    repeat (first | refine wp_as ?_ | refine wp_ss ?_ | refine wp_rs (by simp; with_reducible rfl) (by simp; with_reducible rfl) ?_ | refine wp_reg (by simp; with_reducible rfl) (by simp; with_reducible rfl) ?_ | (refine wp_ct (t := true) ?_ (fun _ => ?_) (fun hh => nomatch hh); focus (simp; done)) | (refine wp_ct (t := false) ?_ (fun hh => nomatch hh) (fun _ => ?_); focus (simp; done)) | (refine wp_c (t := true) ?_ (fun _ => ?_) (fun hh => nomatch hh); focus (simp; done)) | (refine wp_c (t := false) ?_ (fun hh => nomatch hh) (fun _ => ?_); focus (simp; done)) | refine wp_bs ?_ | refine wp_b ?_ | refine wp_sr ?_ | refine wp_sx ?_ | refine wp_ret' ?_ | refine wp_skip' ?_ | refine wp_exit' ?_)
    exact .inl ⟨rfl, fun k h1 h2 => by omega, rfl⟩
  | succ m ih =>
    intro b hb
    have hbn : b < n := by omega
    obtain ⟨hl, hn, hr⟩ := hs
    have w2 : IntKind.i64.wrap ((b : Int) + 1) = ((b + 1 : Nat) : Int) := wrapS (by omega)
    have ha1 : a < t.length := by omega
    have hb1 : b < t.length := by omega
    have hra := hr _ (List.getElem_mem ha1)
    have hrb := hr _ (List.getElem_mem hb1)
    have hab : b < t[a].length := by omega
    have hba : a < t[b].length := by omega
    have x1 := hra.2 _ (List.getElem_mem hab)
    have x2 := hrb.2 _ (List.getElem_mem hba)
    have w1 : IntKind.i64.wrap (t[a][b] + t[b][a]) = t[a][b] + t[b][a] := wrap64 (by omega) (by omega)
    have g1 := g2_eq ha1 hab
    have g3 := g2_eq hb1 hba
    by_cases he : a = b
    · subst he
      by_cases h0 : t[a][a] = 0
      · refine wp_loop ?_
        repeat (first | refine wp_as ?_ | refine wp_ss ?_ | refine wp_rs (by simp [hbn, ha1, hab, h0, w2]; with_reducible rfl) (by simp; with_reducible rfl) ?_ | refine wp_reg (by simp [hbn, ha1, hab, h0, w2]; with_reducible rfl) (by simp; with_reducible rfl) ?_ | (refine wp_ct (t := true) ?_ (fun _ => ?_) (fun hh => nomatch hh); focus (simp [hbn, ha1, hab, h0, w2]; done)) | (refine wp_ct (t := false) ?_ (fun hh => nomatch hh) (fun _ => ?_); focus (simp [hbn, ha1, hab, h0, w2]; done)) | (refine wp_c (t := true) ?_ (fun _ => ?_) (fun hh => nomatch hh); focus (simp [hbn, ha1, hab, h0, w2]; done)) | (refine wp_c (t := false) ?_ (fun hh => nomatch hh) (fun _ => ?_); focus (simp [hbn, ha1, hab, h0, w2]; done)) | refine wp_bs ?_ | refine wp_b ?_ | refine wp_sr ?_ | refine wp_sx ?_ | refine wp_ret' ?_ | refine wp_skip' ?_ | refine wp_exit' ?_)
        refine wp_imp (ih (a + 1) (by omega)) ?_
        rintro ex st (⟨rfl, h, rfl⟩ | ⟨rfl, h, rfl⟩)
        · refine .inl ⟨rfl, fun k h1 h2 => ?_, rfl⟩
          by_cases hk : k = a
          · subst hk; simp [tAt, g1, h0]
          · exact h k (by omega) h2
        · exact .inr ⟨rfl, h, rfl⟩
      · refine wp_loop ?_
        repeat (first | refine wp_as ?_ | refine wp_ss ?_ | refine wp_rs (by simp [hbn, ha1, hab, h0, w2]; with_reducible rfl) (by simp; with_reducible rfl) ?_ | refine wp_reg (by simp [hbn, ha1, hab, h0, w2]; with_reducible rfl) (by simp; with_reducible rfl) ?_ | (refine wp_ct (t := true) ?_ (fun _ => ?_) (fun hh => nomatch hh); focus (simp [hbn, ha1, hab, h0, w2]; done)) | (refine wp_ct (t := false) ?_ (fun hh => nomatch hh) (fun _ => ?_); focus (simp [hbn, ha1, hab, h0, w2]; done)) | (refine wp_c (t := true) ?_ (fun _ => ?_) (fun hh => nomatch hh); focus (simp [hbn, ha1, hab, h0, w2]; done)) | (refine wp_c (t := false) ?_ (fun hh => nomatch hh) (fun _ => ?_); focus (simp [hbn, ha1, hab, h0, w2]; done)) | refine wp_bs ?_ | refine wp_b ?_ | refine wp_sr ?_ | refine wp_sx ?_ | refine wp_ret' ?_ | refine wp_skip' ?_ | refine wp_exit' ?_)
        exact .inr ⟨rfl, ⟨a, hbn, by simp [tAt, g1, h0]⟩, rfl⟩
    · by_cases h0 : t[a][b] + t[b][a] = 1
      · refine wp_loop ?_
        repeat (first | refine wp_as ?_ | refine wp_ss ?_ | refine wp_rs (by simp [hbn, ha1, hb1, hab, hba, h0, w1, w2, Int.ofNat_inj, he]; with_reducible rfl) (by simp; with_reducible rfl) ?_ | refine wp_reg (by simp [hbn, ha1, hb1, hab, hba, h0, w1, w2, Int.ofNat_inj, he]; with_reducible rfl) (by simp; with_reducible rfl) ?_ | (refine wp_ct (t := true) ?_ (fun _ => ?_) (fun hh => nomatch hh); focus (simp [hbn, ha1, hb1, hab, hba, h0, w1, w2, Int.ofNat_inj, he]; done)) | (refine wp_ct (t := false) ?_ (fun hh => nomatch hh) (fun _ => ?_); focus (simp [hbn, ha1, hb1, hab, hba, h0, w1, w2, Int.ofNat_inj, he]; done)) | (refine wp_c (t := true) ?_ (fun _ => ?_) (fun hh => nomatch hh); focus (simp [hbn, ha1, hb1, hab, hba, h0, w1, w2, Int.ofNat_inj, he]; done)) | (refine wp_c (t := false) ?_ (fun hh => nomatch hh) (fun _ => ?_); focus (simp [hbn, ha1, hb1, hab, hba, h0, w1, w2, Int.ofNat_inj, he]; done)) | refine wp_bs ?_ | refine wp_b ?_ | refine wp_sr ?_ | refine wp_sx ?_ | refine wp_ret' ?_ | refine wp_skip' ?_ | refine wp_exit' ?_)
        refine wp_imp (ih (b + 1) (by omega)) ?_
        rintro ex st (⟨rfl, h, rfl⟩ | ⟨rfl, h, rfl⟩)
        · refine .inl ⟨rfl, fun k h1 h2 => ?_, rfl⟩
          by_cases hk : k = b
          · subst hk; simp [tAt, g1, g3, he, h0]
          · exact h k (by omega) h2
        · exact .inr ⟨rfl, h, rfl⟩
      · refine wp_loop ?_
        repeat (first | refine wp_as ?_ | refine wp_ss ?_ | refine wp_rs (by simp [hbn, ha1, hb1, hab, hba, h0, w1, w2, Int.ofNat_inj, he]; with_reducible rfl) (by simp; with_reducible rfl) ?_ | refine wp_reg (by simp [hbn, ha1, hb1, hab, hba, h0, w1, w2, Int.ofNat_inj, he]; with_reducible rfl) (by simp; with_reducible rfl) ?_ | (refine wp_ct (t := true) ?_ (fun _ => ?_) (fun hh => nomatch hh); focus (simp [hbn, ha1, hb1, hab, hba, h0, w1, w2, Int.ofNat_inj, he]; done)) | (refine wp_ct (t := false) ?_ (fun hh => nomatch hh) (fun _ => ?_); focus (simp [hbn, ha1, hb1, hab, hba, h0, w1, w2, Int.ofNat_inj, he]; done)) | (refine wp_c (t := true) ?_ (fun _ => ?_) (fun hh => nomatch hh); focus (simp [hbn, ha1, hb1, hab, hba, h0, w1, w2, Int.ofNat_inj, he]; done)) | (refine wp_c (t := false) ?_ (fun hh => nomatch hh) (fun _ => ?_); focus (simp [hbn, ha1, hb1, hab, hba, h0, w1, w2, Int.ofNat_inj, he]; done)) | refine wp_bs ?_ | refine wp_b ?_ | refine wp_sr ?_ | refine wp_sx ?_ | refine wp_ret' ?_ | refine wp_skip' ?_ | refine wp_exit' ?_)
        exact .inr ⟨rfl, ⟨b, hbn, by simp [tAt, g1, g3, he, h0]⟩, rfl⟩

theorem vt_out (n : Nat) (t : List (List Int)) (c : Bool) (hs : Sqr n t) : ∀ (m a : Nat), a + m = n →
    wp tb (.loop ic_impl_ValidTournament_l14) { T := [(0, TL t c), (18, I n), (19, I a)], loc := [], M := [] }
      (fun ex st => (ex = .exit 0 ∧ (∀ j k, a ≤ j → j < n → k < n → tAt t j k) ∧ st = { T := [(0, TL t c), (18, I n), (19, I n), (20, Bo false)], loc := [], M := [] }) ∨
        ex = .ret ∧ (∃ j k, j < n ∧ k < n ∧ ¬ tAt t j k) ∧ st = { T := [(2, Bo false)], loc := [], M := [] }) := by
  intro m
  induction m with
  | zero =>
    intro a ha
    have h3 : a = n := ha
    subst h3
    refine wp_loop ?_
    repeat (first | refine wp_as ?_ | refine wp_ss ?_ | refine wp_rs (by simp; with_reducible rfl) (by simp; with_reducible rfl) ?_ | refine wp_reg (by simp; with_reducible rfl) (by simp; with_reducible rfl) ?_ | (refine wp_ct (t := true) ?_ (fun _ => ?_) (fun hh => nomatch hh); focus (simp; done)) | (refine wp_ct (t := false) ?_ (fun hh => nomatch hh) (fun _ => ?_); focus (simp; done)) | (refine wp_c (t := true) ?_ (fun _ => ?_) (fun hh => nomatch hh); focus (simp; done)) | (refine wp_c (t := false) ?_ (fun hh => nomatch hh) (fun _ => ?_); focus (simp; done)) | refine wp_bs ?_ | refine wp_b ?_ | refine wp_sr ?_ | refine wp_sx ?_ | refine wp_ret' ?_ | refine wp_skip' ?_ | refine wp_exit' ?_)
    exact .inl ⟨rfl, fun j k h1 h2 => by omega, rfl⟩
  | succ m ih =>
    intro a ha
    have han : a < n := by omega
    have hl := hs.1
    have hn := hs.2.1
    have w2 : IntKind.i64.wrap ((a : Int) + 1) = ((a + 1 : Nat) : Int) := wrapS (by omega)
    refine wp_loop ?_
    repeat (first | refine wp_as ?_ | refine wp_ss ?_ | refine wp_rs (by simp [han, hl]; with_reducible rfl) (by simp; with_reducible rfl) ?_ | refine wp_reg (by simp [han, hl]; with_reducible rfl) (by simp; with_reducible rfl) ?_ | (refine wp_ct (t := true) ?_ (fun _ => ?_) (fun hh => nomatch hh); focus (simp [han, hl]; done)) | (refine wp_ct (t := false) ?_ (fun hh => nomatch hh) (fun _ => ?_); focus (simp [han, hl]; done)) | (refine wp_c (t := true) ?_ (fun _ => ?_) (fun hh => nomatch hh); focus (simp [han, hl]; done)) | (refine wp_c (t := false) ?_ (fun hh => nomatch hh) (fun _ => ?_); focus (simp [han, hl]; done)) | refine wp_bs ?_ | refine wp_b ?_ | refine wp_sr ?_ | refine wp_sx ?_ | refine wp_ret' ?_ | refine wp_skip' ?_ | refine wp_exit' ?_)
    refine wp_imp (vt_in n t c hs a han n 0 (by omega)) ?_
    rintro ex st (⟨rfl, h, rfl⟩ | ⟨rfl, ⟨k, h1, h2⟩, rfl⟩)
    · simp only [if_true]
      repeat (first | refine wp_as ?_ | refine wp_ss ?_ | refine wp_rs (by simp [w2]; with_reducible rfl) (by simp; with_reducible rfl) ?_ | refine wp_reg (by simp [w2]; with_reducible rfl) (by simp; with_reducible rfl) ?_ | (refine wp_ct (t := true) ?_ (fun _ => ?_) (fun hh => nomatch hh); focus (simp [w2]; done)) | (refine wp_ct (t := false) ?_ (fun hh => nomatch hh) (fun _ => ?_); focus (simp [w2]; done)) | (refine wp_c (t := true) ?_ (fun _ => ?_) (fun hh => nomatch hh); focus (simp [w2]; done)) | (refine wp_c (t := false) ?_ (fun hh => nomatch hh) (fun _ => ?_); focus (simp [w2]; done)) | refine wp_bs ?_ | refine wp_b ?_ | refine wp_sr ?_ | refine wp_sx ?_ | refine wp_ret' ?_ | refine wp_skip' ?_ | refine wp_exit' ?_)
      refine wp_imp (ih (a + 1) (by omega)) ?_
      rintro ex st (⟨rfl, h', rfl⟩ | ⟨rfl, h', rfl⟩)
      · refine .inl ⟨rfl, fun j k h1 h2 h3 => ?_, rfl⟩
        by_cases hj : j = a
        · subst hj; exact h k (by omega) h3
        · exact h' j k (by omega) h2 h3
      · exact .inr ⟨rfl, h', rfl⟩
    · exact .inr ⟨rfl, ⟨a, k, han, h1, h2⟩, rfl⟩

theorem mOk_iff (t : List (List Int)) (h : t.length = (t.getD 0 []).length) : mOk t = true ↔ (1 ≤ t.length ∧ t.length ≤ 5) ∧ Sq t := by
  simp only [mOk, Bool.and_eq_true, List.all_eq_true, rowOk, decide_eq_true_eq, Sq, ← h]
  constructor
  · rintro ⟨h1, h2⟩
    exact ⟨⟨by omega, by omega⟩, fun r hr => ⟨(h1 r hr).1.1, fun x hx => (h1 r hr).2 x hx⟩⟩
  · rintro ⟨h1, h2⟩
    exact ⟨fun r hr => ⟨⟨(h2 r hr).1, by have := (h2 r hr).1; omega⟩, fun x hx => (h2 r hr).2 x hx⟩, by omega⟩

theorem ev_ValidTournament (t : List (List Int)) (c : Bool) (hl : t.length ≤ 1000000) (hr : ∀ r ∈ t, r.length ≤ 1000000) :
    Ev tb l_impl_ValidTournament [] [TL t c] [] ⟨Bo (vT t), [], [], []⟩ := by
  have e1 := ev_lim (ev_ValidMatrix t c hl hr)
  cases hm : mOk t with
  | false =>
    have hv : vT t = false := by
      rw [vT_false]
      intro ht
      have h0 : 0 < t.length := by have := ht.1.1; omega
      have : t.length = (t.getD 0 []).length := by
        simp [List.getD_eq_getElem?_getD, List.getElem?_eq_getElem h0, (ht.2.1 _ (List.getElem_mem h0)).1]
      rw [(mOk_iff t this).2 ⟨ht.1, ht.2.1⟩] at hm
      exact absurd hm (by simp)
    rw [hm] at e1
    rw [hv]
    refine call_of_wp tb_impl_ValidTournament rfl ?_
    repeat (first | refine wp_as ?_ | refine wp_ss ?_ | refine wp_rs (by simp [e1]; with_reducible rfl) (by simp; with_reducible rfl) ?_ | refine wp_reg (by simp [e1]; with_reducible rfl) (by simp; with_reducible rfl) ?_ | (refine wp_ct (t := true) ?_ (fun _ => ?_) (fun hh => nomatch hh); focus (simp [e1]; done)) | (refine wp_ct (t := false) ?_ (fun hh => nomatch hh) (fun _ => ?_); focus (simp [e1]; done)) | (refine wp_c (t := true) ?_ (fun _ => ?_) (fun hh => nomatch hh); focus (simp [e1]; done)) | (refine wp_c (t := false) ?_ (fun hh => nomatch hh) (fun _ => ?_); focus (simp [e1]; done)) | refine wp_bs ?_ | refine wp_b ?_ | refine wp_sr ?_ | refine wp_sx ?_ | refine wp_ret' ?_ | refine wp_skip' ?_ | refine wp_exit' ?_)
    simp [if_impl_ValidTournament]
  | true =>
  rw [hm] at e1
  have h0 : 0 < t.length := by
    simp only [mOk, Bool.and_eq_true, decide_eq_true_eq] at hm; omega
  have hg : (t.getD 0 []) = t[0] := by simp [List.getD_eq_getElem?_getD, List.getElem?_eq_getElem h0]
  by_cases hq : t.length = t[0].length
  rotate_left
  · have hv : vT t = false := by
      rw [vT_false]
      intro ht
      exact hq (ht.2.1 _ (List.getElem_mem h0)).1.symm
    rw [hv]
    refine call_of_wp tb_impl_ValidTournament rfl ?_
    repeat (first | refine wp_as ?_ | refine wp_ss ?_ | refine wp_rs (by simp [e1, h0, Int.ofNat_inj, hq]; with_reducible rfl) (by simp; with_reducible rfl) ?_ | refine wp_reg (by simp [e1, h0, Int.ofNat_inj, hq]; with_reducible rfl) (by simp; with_reducible rfl) ?_ | (refine wp_ct (t := true) ?_ (fun _ => ?_) (fun hh => nomatch hh); focus (simp [e1, h0, Int.ofNat_inj, hq]; done)) | (refine wp_ct (t := false) ?_ (fun hh => nomatch hh) (fun _ => ?_); focus (simp [e1, h0, Int.ofNat_inj, hq]; done)) | (refine wp_c (t := true) ?_ (fun _ => ?_) (fun hh => nomatch hh); focus (simp [e1, h0, Int.ofNat_inj, hq]; done)) | (refine wp_c (t := false) ?_ (fun hh => nomatch hh) (fun _ => ?_); focus (simp [e1, h0, Int.ofNat_inj, hq]; done)) | refine wp_bs ?_ | refine wp_b ?_ | refine wp_sr ?_ | refine wp_sx ?_ | refine wp_ret' ?_ | refine wp_skip' ?_ | refine wp_exit' ?_)
    simp [if_impl_ValidTournament]
  have hsq := (mOk_iff t (by rw [hg]; exact hq)).1 hm
  have hs : Sqr t.length t := ⟨rfl, hl, fun r hr => ⟨(hsq.2 r hr).1, fun x hx => by have := (hsq.2 r hr).2 x hx; omega⟩⟩
  refine call_of_wp tb_impl_ValidTournament rfl ?_
  repeat (first | refine wp_as ?_ | refine wp_ss ?_ | refine wp_rs (by simp [e1, h0, ← hq]; with_reducible rfl) (by simp; with_reducible rfl) ?_ | refine wp_reg (by simp [e1, h0, ← hq]; with_reducible rfl) (by simp; with_reducible rfl) ?_ | (refine wp_ct (t := true) ?_ (fun _ => ?_) (fun hh => nomatch hh); focus (simp [e1, h0, ← hq]; done)) | (refine wp_ct (t := false) ?_ (fun hh => nomatch hh) (fun _ => ?_); focus (simp [e1, h0, ← hq]; done)) | (refine wp_c (t := true) ?_ (fun _ => ?_) (fun hh => nomatch hh); focus (simp [e1, h0, ← hq]; done)) | (refine wp_c (t := false) ?_ (fun hh => nomatch hh) (fun _ => ?_); focus (simp [e1, h0, ← hq]; done)) | refine wp_bs ?_ | refine wp_b ?_ | refine wp_sr ?_ | refine wp_sx ?_ | refine wp_ret' ?_ | refine wp_skip' ?_ | refine wp_exit' ?_)
  refine wp_imp (vt_out t.length t c hs t.length 0 (by omega)) ?_
  rintro ex st (⟨rfl, h, rfl⟩ | ⟨rfl, ⟨j, k, h1, h2, h3⟩, rfl⟩)
  · simp only [if_true]
    have hv : vT t = true := vT_true.2 ⟨hsq.1, hsq.2, fun a b h1 h2 => h a b (by omega) h1 h2⟩
    rw [hv]
    repeat (first | refine wp_as ?_ | refine wp_ss ?_ | refine wp_rs (by simp; with_reducible rfl) (by simp; with_reducible rfl) ?_ | refine wp_reg (by simp; with_reducible rfl) (by simp; with_reducible rfl) ?_ | (refine wp_ct (t := true) ?_ (fun _ => ?_) (fun hh => nomatch hh); focus (simp; done)) | (refine wp_ct (t := false) ?_ (fun hh => nomatch hh) (fun _ => ?_); focus (simp; done)) | (refine wp_c (t := true) ?_ (fun _ => ?_) (fun hh => nomatch hh); focus (simp; done)) | (refine wp_c (t := false) ?_ (fun hh => nomatch hh) (fun _ => ?_); focus (simp; done)) | refine wp_bs ?_ | refine wp_b ?_ | refine wp_sr ?_ | refine wp_sx ?_ | refine wp_ret' ?_ | refine wp_skip' ?_ | refine wp_exit' ?_)
    simp [if_impl_ValidTournament]
  · have hv : vT t = false := vT_false.2 fun ht => h3 (ht.2.2 j k h1 h2)
    rw [hv]
    simp [if_impl_ValidTournament]

end Go.Idl

namespace Go.Idl

open Go

theorem sv_rows (t : List (List Int)) (c : Bool) (hl : t.length ≤ 1000000) : ∀ (m i : Nat), i + m = t.length →
    wp tb (.loop ic_spec_validTournament_l6) { T := [(0, TL t c), (3, I i)], loc := [], M := [] }
      (fun ex st => (ex = .exit 0 ∧ (∀ r ∈ t.drop i, r.length = t.length) ∧ st = { T := [(0, TL t c), (3, I t.length), (9, Bo false)], loc := [], M := [] }) ∨
        ex = .ret ∧ (∃ r ∈ t, r.length ≠ t.length) ∧ st = { T := [(2, Bo false)], loc := [], M := [] }) := by
  intro m
  induction m with
  | zero =>
    intro i hi
    obtain ⟨h1, h2⟩ := drop_endA hi
    have h3 : i = t.length := hi
    subst h3
    refine wp_loop ?_
    repeat (first | refine wp_as ?_ | refine wp_ss ?_ | refine wp_rs (by simp; with_reducible rfl) (by simp; with_reducible rfl) ?_ | refine wp_reg (by simp; with_reducible rfl) (by simp; with_reducible rfl) ?_ | (refine wp_ct (t := true) ?_ (fun _ => ?_) (fun hh => nomatch hh); focus (simp; done)) | (refine wp_ct (t := false) ?_ (fun hh => nomatch hh) (fun _ => ?_); focus (simp; done)) | (refine wp_c (t := true) ?_ (fun _ => ?_) (fun hh => nomatch hh); focus (simp; done)) | (refine wp_c (t := false) ?_ (fun hh => nomatch hh) (fun _ => ?_); focus (simp; done)) | refine wp_bs ?_ | refine wp_b ?_ | refine wp_sr ?_ | refine wp_sx ?_ | refine wp_ret' ?_ | refine wp_skip' ?_ | refine wp_exit' ?_)
    exact .inl ⟨rfl, by rw [h2]; simp, rfl⟩
  | succ m ih =>
    intro i hi
    obtain ⟨hi2, h2, h3⟩ := drop_getA hi
    have w2 : IntKind.i64.wrap ((i : Int) + 1) = ((i + 1 : Nat) : Int) := wrapS (by omega)
    by_cases he : t[i].length = t.length
    · refine wp_loop ?_
      repeat (first | refine wp_as ?_ | refine wp_ss ?_ | refine wp_rs (by simp [hi2, he, w2]; with_reducible rfl) (by simp; with_reducible rfl) ?_ | refine wp_reg (by simp [hi2, he, w2]; with_reducible rfl) (by simp; with_reducible rfl) ?_ | (refine wp_ct (t := true) ?_ (fun _ => ?_) (fun hh => nomatch hh); focus (simp [hi2, he, w2]; done)) | (refine wp_ct (t := false) ?_ (fun hh => nomatch hh) (fun _ => ?_); focus (simp [hi2, he, w2]; done)) | (refine wp_c (t := true) ?_ (fun _ => ?_) (fun hh => nomatch hh); focus (simp [hi2, he, w2]; done)) | (refine wp_c (t := false) ?_ (fun hh => nomatch hh) (fun _ => ?_); focus (simp [hi2, he, w2]; done)) | refine wp_bs ?_ | refine wp_b ?_ | refine wp_sr ?_ | refine wp_sx ?_ | refine wp_ret' ?_ | refine wp_skip' ?_ | refine wp_exit' ?_)
      refine wp_imp (ih (i + 1) (by omega)) ?_
      rintro ex st (⟨rfl, h, rfl⟩ | ⟨rfl, h, rfl⟩)
      · refine .inl ⟨rfl, ?_, rfl⟩
        rw [h2]
        intro r hr
        rcases List.mem_cons.1 hr with rfl | hr
        · exact he
        · exact h r hr
      · exact .inr ⟨rfl, h, rfl⟩
    · refine wp_loop ?_
      repeat (first | refine wp_as ?_ | refine wp_ss ?_ | refine wp_rs (by simp [hi2, Int.ofNat_inj, he]; with_reducible rfl) (by simp; with_reducible rfl) ?_ | refine wp_reg (by simp [hi2, Int.ofNat_inj, he]; with_reducible rfl) (by simp; with_reducible rfl) ?_ | (refine wp_ct (t := true) ?_ (fun _ => ?_) (fun hh => nomatch hh); focus (simp [hi2, Int.ofNat_inj, he]; done)) | (refine wp_ct (t := false) ?_ (fun hh => nomatch hh) (fun _ => ?_); focus (simp [hi2, Int.ofNat_inj, he]; done)) | (refine wp_c (t := true) ?_ (fun _ => ?_) (fun hh => nomatch hh); focus (simp [hi2, Int.ofNat_inj, he]; done)) | (refine wp_c (t := false) ?_ (fun hh => nomatch hh) (fun _ => ?_); focus (simp [hi2, Int.ofNat_inj, he]; done)) | refine wp_bs ?_ | refine wp_b ?_ | refine wp_sr ?_ | refine wp_sx ?_ | refine wp_ret' ?_ | refine wp_skip' ?_ | refine wp_exit' ?_)
      exact .inr ⟨rfl, ⟨_, h3, he⟩, rfl⟩

/-- An entry is right. -/
def sAt (t : List (List Int)) (a b : Nat) : Prop := (0 ≤ g2 t a b ∧ g2 t a b ≤ 1) ∧ tAt t a b

set_option maxHeartbeats 4000000 in
theorem sv_in (n : Nat) (t : List (List Int)) (c : Bool) (hs : Sqr n t) (a : Nat) (ha : a < n) : ∀ (m b : Nat), b + m = n →
    wp tb (.loop ic_spec_validTournament_l14) { T := [(0, TL t c), (4, I a), (5, I b)], loc := [], M := [] }
      (fun ex st => (ex = .exit 4 ∧ (∀ k, b ≤ k → k < n → sAt t a k) ∧ st = { T := [(0, TL t c), (4, I a), (5, I n), (29, Bo false)], loc := [], M := [] }) ∨
        ex = .ret ∧ (∃ k, k < n ∧ ¬ sAt t a k) ∧ st = { T := [(2, Bo false)], loc := [], M := [] }) := by
  intro m
  induction m with
  | zero =>
    intro b hb
    have h3 : b = n := hb
    subst h3
    have hl := hs.1
    refine wp_loop ?_
    repeat (first | refine wp_as ?_ | refine wp_ss ?_ | refine wp_rs (by simp [hl]; with_reducible rfl) (by simp; with_reducible rfl) ?_ | refine wp_reg (by simp [hl]; with_reducible rfl) (by simp; with_reducible rfl) ?_ | (refine wp_ct (t := true) ?_ (fun _ => ?_) (fun hh => nomatch hh); focus (simp [hl]; done)) | (refine wp_ct (t := false) ?_ (fun hh => nomatch hh) (fun _ => ?_); focus (simp [hl]; done)) | (refine wp_c (t := true) ?_ (fun _ => ?_) (fun hh => nomatch hh); focus (simp [hl]; done)) | (refine wp_c (t := false) ?_ (fun hh => nomatch hh) (fun _ => ?_); focus (simp [hl]; done)) | refine wp_bs ?_ | refine wp_b ?_ | refine wp_sr ?_ | refine wp_sx ?_ | refine wp_ret' ?_ | refine wp_skip' ?_ | refine wp_exit' ?_)
    exact .inl ⟨rfl, fun k h1 h2 => by omega, rfl⟩
  | succ m ih =>
    intro b hb
    have hbn : b < n := by omega
    obtain ⟨hl, hn, hr⟩ := hs
    have w2 : IntKind.i64.wrap ((b : Int) + 1) = ((b + 1 : Nat) : Int) := wrapS (by omega)
    have ha1 : a < t.length := by omega
    have hb1 : b < t.length := by omega
    have hra := hr _ (List.getElem_mem ha1)
    have hrb := hr _ (List.getElem_mem hb1)
    have hab : b < t[a].length := by omega
    have hba : a < t[b].length := by omega
    have x1 := hra.2 _ (List.getElem_mem hab)
    have x2 := hrb.2 _ (List.getElem_mem hba)
    have w1 : IntKind.i64.wrap (t[a][b] + t[b][a]) = t[a][b] + t[b][a] := wrap64 (by omega) (by omega)
    have w3 : IntKind.i64.wrap 1 = 1 := rfl
    have g1 := g2_eq ha1 hab
    have g3 := g2_eq hb1 hba
    have e1 := ev_lim (ev_inRange t[a][b] 0 1)
    have fin : sAt t a b → (∀ (ex : Ex) (st : St), ((ex = .exit 4 ∧ (∀ k, b + 1 ≤ k → k < n → sAt t a k) ∧ st = { T := [(0, TL t c), (4, I a), (5, I n), (29, Bo false)], loc := [], M := [] }) ∨
        ex = .ret ∧ (∃ k, k < n ∧ ¬ sAt t a k) ∧ st = { T := [(2, Bo false)], loc := [], M := [] }) → (ex = .exit 4 ∧ (∀ k, b ≤ k → k < n → sAt t a k) ∧ st = { T := [(0, TL t c), (4, I a), (5, I n), (29, Bo false)], loc := [], M := [] }) ∨
        ex = .ret ∧ (∃ k, k < n ∧ ¬ sAt t a k) ∧ st = { T := [(2, Bo false)], loc := [], M := [] }) := by
      rintro hh ex st (⟨rfl, h, rfl⟩ | ⟨rfl, h, rfl⟩)
      · refine .inl ⟨rfl, fun k h1 h2 => ?_, rfl⟩
        by_cases hk : k = b
        · subst hk; exact hh
        · exact h k (by omega) h2
      · exact .inr ⟨rfl, h, rfl⟩
    by_cases hi : 0 ≤ t[a][b] ∧ t[a][b] ≤ 1
    rotate_left
    · rw [show (decide (0 ≤ t[a][b]) && decide (t[a][b] ≤ 1)) = false by rw [← Bool.not_eq_true, Bool.and_eq_true, decide_eq_true_eq, decide_eq_true_eq]; exact hi] at e1
      refine wp_loop ?_
      repeat (first | refine wp_as ?_ | refine wp_ss ?_ | refine wp_rs (by simp [hbn, ha, ha1, hab, hl, e1]; with_reducible rfl) (by simp; with_reducible rfl) ?_ | refine wp_reg (by simp [hbn, ha, ha1, hab, hl, e1]; with_reducible rfl) (by simp; with_reducible rfl) ?_ | (refine wp_ct (t := true) ?_ (fun _ => ?_) (fun hh => nomatch hh); focus (simp [hbn, ha, ha1, hab, hl, e1]; done)) | (refine wp_ct (t := false) ?_ (fun hh => nomatch hh) (fun _ => ?_); focus (simp [hbn, ha, ha1, hab, hl, e1]; done)) | (refine wp_c (t := true) ?_ (fun _ => ?_) (fun hh => nomatch hh); focus (simp [hbn, ha, ha1, hab, hl, e1]; done)) | (refine wp_c (t := false) ?_ (fun hh => nomatch hh) (fun _ => ?_); focus (simp [hbn, ha, ha1, hab, hl, e1]; done)) | refine wp_bs ?_ | refine wp_b ?_ | refine wp_sr ?_ | refine wp_sx ?_ | refine wp_ret' ?_ | refine wp_skip' ?_ | refine wp_exit' ?_)
      exact .inr ⟨rfl, ⟨b, hbn, fun h => hi (by have := h.1; rw [g1] at this; exact this)⟩, rfl⟩
    rw [show (decide (0 ≤ t[a][b]) && decide (t[a][b] ≤ 1)) = true by rw [Bool.and_eq_true, decide_eq_true_eq, decide_eq_true_eq]; exact hi] at e1
    by_cases he : a = b
    · subst he
      by_cases h0 : t[a][a] = 0
      · rw [h0] at e1
        refine wp_loop ?_
        repeat (first | refine wp_as ?_ | refine wp_ss ?_ | refine wp_rs (by simp [hbn, ha, ha1, hab, h0, w2, hl, e1]; with_reducible rfl) (by simp; with_reducible rfl) ?_ | refine wp_reg (by simp [hbn, ha, ha1, hab, h0, w2, hl, e1]; with_reducible rfl) (by simp; with_reducible rfl) ?_ | (refine wp_ct (t := true) ?_ (fun _ => ?_) (fun hh => nomatch hh); focus (simp [hbn, ha, ha1, hab, h0, w2, hl, e1]; done)) | (refine wp_ct (t := false) ?_ (fun hh => nomatch hh) (fun _ => ?_); focus (simp [hbn, ha, ha1, hab, h0, w2, hl, e1]; done)) | (refine wp_c (t := true) ?_ (fun _ => ?_) (fun hh => nomatch hh); focus (simp [hbn, ha, ha1, hab, h0, w2, hl, e1]; done)) | (refine wp_c (t := false) ?_ (fun hh => nomatch hh) (fun _ => ?_); focus (simp [hbn, ha, ha1, hab, h0, w2, hl, e1]; done)) | refine wp_bs ?_ | refine wp_b ?_ | refine wp_sr ?_ | refine wp_sx ?_ | refine wp_ret' ?_ | refine wp_skip' ?_ | refine wp_exit' ?_)
        exact wp_imp (ih (a + 1) (by omega)) (fin ⟨by rw [g1]; exact hi, by simp [tAt, g1, h0]⟩)
      · refine wp_loop ?_
        repeat (first | refine wp_as ?_ | refine wp_ss ?_ | refine wp_rs (by simp [hbn, ha, ha1, hab, h0, w2, hl, e1]; with_reducible rfl) (by simp; with_reducible rfl) ?_ | refine wp_reg (by simp [hbn, ha, ha1, hab, h0, w2, hl, e1]; with_reducible rfl) (by simp; with_reducible rfl) ?_ | (refine wp_ct (t := true) ?_ (fun _ => ?_) (fun hh => nomatch hh); focus (simp [hbn, ha, ha1, hab, h0, w2, hl, e1]; done)) | (refine wp_ct (t := false) ?_ (fun hh => nomatch hh) (fun _ => ?_); focus (simp [hbn, ha, ha1, hab, h0, w2, hl, e1]; done)) | (refine wp_c (t := true) ?_ (fun _ => ?_) (fun hh => nomatch hh); focus (simp [hbn, ha, ha1, hab, h0, w2, hl, e1]; done)) | (refine wp_c (t := false) ?_ (fun hh => nomatch hh) (fun _ => ?_); focus (simp [hbn, ha, ha1, hab, h0, w2, hl, e1]; done)) | refine wp_bs ?_ | refine wp_b ?_ | refine wp_sr ?_ | refine wp_sx ?_ | refine wp_ret' ?_ | refine wp_skip' ?_ | refine wp_exit' ?_)
        exact .inr ⟨rfl, ⟨a, hbn, fun h => by have := h.2; simp [tAt, g1, h0] at this⟩, rfl⟩
    · by_cases h0 : t[a][b] + t[b][a] = 1
      · refine wp_loop ?_
        repeat (first | refine wp_as ?_ | refine wp_ss ?_ | refine wp_rs (by simp [hbn, ha, ha1, hb1, hab, hba, h0, w1, w3, w2, Int.ofNat_inj, he, hl, e1]; with_reducible rfl) (by simp; with_reducible rfl) ?_ | refine wp_reg (by simp [hbn, ha, ha1, hb1, hab, hba, h0, w1, w3, w2, Int.ofNat_inj, he, hl, e1]; with_reducible rfl) (by simp; with_reducible rfl) ?_ | (refine wp_ct (t := true) ?_ (fun _ => ?_) (fun hh => nomatch hh); focus (simp [hbn, ha, ha1, hb1, hab, hba, h0, w1, w3, w2, Int.ofNat_inj, he, hl, e1]; done)) | (refine wp_ct (t := false) ?_ (fun hh => nomatch hh) (fun _ => ?_); focus (simp [hbn, ha, ha1, hb1, hab, hba, h0, w1, w3, w2, Int.ofNat_inj, he, hl, e1]; done)) | (refine wp_c (t := true) ?_ (fun _ => ?_) (fun hh => nomatch hh); focus (simp [hbn, ha, ha1, hb1, hab, hba, h0, w1, w3, w2, Int.ofNat_inj, he, hl, e1]; done)) | (refine wp_c (t := false) ?_ (fun hh => nomatch hh) (fun _ => ?_); focus (simp [hbn, ha, ha1, hb1, hab, hba, h0, w1, w3, w2, Int.ofNat_inj, he, hl, e1]; done)) | refine wp_bs ?_ | refine wp_b ?_ | refine wp_sr ?_ | refine wp_sx ?_ | refine wp_ret' ?_ | refine wp_skip' ?_ | refine wp_exit' ?_)
        exact wp_imp (ih (b + 1) (by omega)) (fin ⟨by rw [g1]; exact hi, by simp [tAt, g1, g3, he, h0]⟩)
      · refine wp_loop ?_
        repeat (first | refine wp_as ?_ | refine wp_ss ?_ | refine wp_rs (by simp [hbn, ha, ha1, hb1, hab, hba, h0, w1, w3, w2, Int.ofNat_inj, he, hl, e1]; with_reducible rfl) (by simp; with_reducible rfl) ?_ | refine wp_reg (by simp [hbn, ha, ha1, hb1, hab, hba, h0, w1, w3, w2, Int.ofNat_inj, he, hl, e1]; with_reducible rfl) (by simp; with_reducible rfl) ?_ | (refine wp_ct (t := true) ?_ (fun _ => ?_) (fun hh => nomatch hh); focus (simp [hbn, ha, ha1, hb1, hab, hba, h0, w1, w3, w2, Int.ofNat_inj, he, hl, e1]; done)) | (refine wp_ct (t := false) ?_ (fun hh => nomatch hh) (fun _ => ?_); focus (simp [hbn, ha, ha1, hb1, hab, hba, h0, w1, w3, w2, Int.ofNat_inj, he, hl, e1]; done)) | (refine wp_c (t := true) ?_ (fun _ => ?_) (fun hh => nomatch hh); focus (simp [hbn, ha, ha1, hb1, hab, hba, h0, w1, w3, w2, Int.ofNat_inj, he, hl, e1]; done)) | (refine wp_c (t := false) ?_ (fun hh => nomatch hh) (fun _ => ?_); focus (simp [hbn, ha, ha1, hb1, hab, hba, h0, w1, w3, w2, Int.ofNat_inj, he, hl, e1]; done)) | refine wp_bs ?_ | refine wp_b ?_ | refine wp_sr ?_ | refine wp_sx ?_ | refine wp_ret' ?_ | refine wp_skip' ?_ | refine wp_exit' ?_)
        exact .inr ⟨rfl, ⟨b, hbn, fun h => by have := h.2; simp [tAt, g1, g3, he, h0] at this⟩, rfl⟩

theorem sv_out (n : Nat) (t : List (List Int)) (c : Bool) (hs : Sqr n t) : ∀ (m a : Nat), a + m = n →
    wp tb (.loop ic_spec_validTournament_l16) { T := [(0, TL t c), (4, I a)], loc := [], M := [] }
      (fun ex st => (ex = .exit 2 ∧ (∀ j k, a ≤ j → j < n → k < n → sAt t j k) ∧ st = { T := [(0, TL t c), (4, I n), (23, Bo false)], loc := [], M := [] }) ∨
        ex = .ret ∧ (∃ j k, j < n ∧ k < n ∧ ¬ sAt t j k) ∧ st = { T := [(2, Bo false)], loc := [], M := [] }) := by
  intro m
  induction m with
  | zero =>
    intro a ha
    have h3 : a = n := ha
    subst h3
    have hl := hs.1
    refine wp_loop ?_
    repeat (first | refine wp_as ?_ | refine wp_ss ?_ | refine wp_rs (by simp [hl]; with_reducible rfl) (by simp; with_reducible rfl) ?_ | refine wp_reg (by simp [hl]; with_reducible rfl) (by simp; with_reducible rfl) ?_ | (refine wp_ct (t := true) ?_ (fun _ => ?_) (fun hh => nomatch hh); focus (simp [hl]; done)) | (refine wp_ct (t := false) ?_ (fun hh => nomatch hh) (fun _ => ?_); focus (simp [hl]; done)) | (refine wp_c (t := true) ?_ (fun _ => ?_) (fun hh => nomatch hh); focus (simp [hl]; done)) | (refine wp_c (t := false) ?_ (fun hh => nomatch hh) (fun _ => ?_); focus (simp [hl]; done)) | refine wp_bs ?_ | refine wp_b ?_ | refine wp_sr ?_ | refine wp_sx ?_ | refine wp_ret' ?_ | refine wp_skip' ?_ | refine wp_exit' ?_)
    exact .inl ⟨rfl, fun j k h1 h2 => by omega, rfl⟩
  | succ m ih =>
    intro a ha
    have han : a < n := by omega
    have hl := hs.1
    have hn := hs.2.1
    have w2 : IntKind.i64.wrap ((a : Int) + 1) = ((a + 1 : Nat) : Int) := wrapS (by omega)
    refine wp_loop ?_
    repeat (first | refine wp_as ?_ | refine wp_ss ?_ | refine wp_rs (by simp [han, hl]; with_reducible rfl) (by simp; with_reducible rfl) ?_ | refine wp_reg (by simp [han, hl]; with_reducible rfl) (by simp; with_reducible rfl) ?_ | (refine wp_ct (t := true) ?_ (fun _ => ?_) (fun hh => nomatch hh); focus (simp [han, hl]; done)) | (refine wp_ct (t := false) ?_ (fun hh => nomatch hh) (fun _ => ?_); focus (simp [han, hl]; done)) | (refine wp_c (t := true) ?_ (fun _ => ?_) (fun hh => nomatch hh); focus (simp [han, hl]; done)) | (refine wp_c (t := false) ?_ (fun hh => nomatch hh) (fun _ => ?_); focus (simp [han, hl]; done)) | refine wp_bs ?_ | refine wp_b ?_ | refine wp_sr ?_ | refine wp_sx ?_ | refine wp_ret' ?_ | refine wp_skip' ?_ | refine wp_exit' ?_)
    refine wp_imp (sv_in n t c hs a han n 0 (by omega)) ?_
    rintro ex st (⟨rfl, h, rfl⟩ | ⟨rfl, ⟨k, h1, h2⟩, rfl⟩)
    · simp only [if_true]
      repeat (first | refine wp_as ?_ | refine wp_ss ?_ | refine wp_rs (by simp [w2]; with_reducible rfl) (by simp; with_reducible rfl) ?_ | refine wp_reg (by simp [w2]; with_reducible rfl) (by simp; with_reducible rfl) ?_ | (refine wp_ct (t := true) ?_ (fun _ => ?_) (fun hh => nomatch hh); focus (simp [w2]; done)) | (refine wp_ct (t := false) ?_ (fun hh => nomatch hh) (fun _ => ?_); focus (simp [w2]; done)) | (refine wp_c (t := true) ?_ (fun _ => ?_) (fun hh => nomatch hh); focus (simp [w2]; done)) | (refine wp_c (t := false) ?_ (fun hh => nomatch hh) (fun _ => ?_); focus (simp [w2]; done)) | refine wp_bs ?_ | refine wp_b ?_ | refine wp_sr ?_ | refine wp_sx ?_ | refine wp_ret' ?_ | refine wp_skip' ?_ | refine wp_exit' ?_)
      refine wp_imp (ih (a + 1) (by omega)) ?_
      rintro ex st (⟨rfl, h', rfl⟩ | ⟨rfl, h', rfl⟩)
      · refine .inl ⟨rfl, fun j k h1 h2 h3 => ?_, rfl⟩
        by_cases hj : j = a
        · subst hj; exact h k (by omega) h3
        · exact h' j k (by omega) h2 h3
      · exact .inr ⟨rfl, h', rfl⟩
    · exact .inr ⟨rfl, ⟨a, k, han, h1, h2⟩, rfl⟩

/-- Numbers of a table are not great. -/
def Small2 (t : List (List Int)) : Prop := t.length ≤ 1000 ∧ ∀ r ∈ t, r.length ≤ 1000 ∧ ∀ x ∈ r, -1000 ≤ x ∧ x ≤ 1000

theorem ev_validTournament (t : List (List Int)) (c : Bool) (hb : Small2 t) : Ev tb l_spec_validTournament [] [TL t c] [] ⟨Bo (vT t), [], [], []⟩ := by
  have hl := hb.1
  refine call_of_wp tb_spec_validTournament rfl ?_
  repeat (first | refine wp_as ?_ | refine wp_ss ?_ | refine wp_rs (by simp; with_reducible rfl) (by simp; with_reducible rfl) ?_ | refine wp_reg (by simp; with_reducible rfl) (by simp; with_reducible rfl) ?_ | (refine wp_ct (t := true) ?_ (fun _ => ?_) (fun hh => nomatch hh); focus (simp; done)) | (refine wp_ct (t := false) ?_ (fun hh => nomatch hh) (fun _ => ?_); focus (simp; done)) | (refine wp_c (t := true) ?_ (fun _ => ?_) (fun hh => nomatch hh); focus (simp; done)) | (refine wp_c (t := false) ?_ (fun hh => nomatch hh) (fun _ => ?_); focus (simp; done)) | refine wp_bs ?_ | refine wp_b ?_ | refine wp_sr ?_ | refine wp_sx ?_ | refine wp_ret' ?_ | refine wp_skip' ?_ | refine wp_exit' ?_)
  refine wp_imp (sv_rows t c (by omega) t.length 0 (by omega)) ?_
  rintro ex st (⟨rfl, h, rfl⟩ | ⟨rfl, ⟨r, h1, h2⟩, rfl⟩)
  rotate_left
  · have hv : vT t = false := vT_false.2 fun ht => h2 (ht.2.1 r h1).1
    rw [hv]
    simp [if_spec_validTournament]
  simp only [List.drop_zero] at h
  have hs : Sqr t.length t := ⟨rfl, by omega, fun r hr => ⟨h r hr, fun x hx => (hb.2 r hr).2 x hx⟩⟩
  simp only [if_true]
  repeat (first | refine wp_as ?_ | refine wp_ss ?_ | refine wp_rs (by simp; with_reducible rfl) (by simp; with_reducible rfl) ?_ | refine wp_reg (by simp; with_reducible rfl) (by simp; with_reducible rfl) ?_ | (refine wp_ct (t := true) ?_ (fun _ => ?_) (fun hh => nomatch hh); focus (simp; done)) | (refine wp_ct (t := false) ?_ (fun hh => nomatch hh) (fun _ => ?_); focus (simp; done)) | (refine wp_c (t := true) ?_ (fun _ => ?_) (fun hh => nomatch hh); focus (simp; done)) | (refine wp_c (t := false) ?_ (fun hh => nomatch hh) (fun _ => ?_); focus (simp; done)) | refine wp_bs ?_ | refine wp_b ?_ | refine wp_sr ?_ | refine wp_sx ?_ | refine wp_ret' ?_ | refine wp_skip' ?_ | refine wp_exit' ?_)
  refine wp_imp (sv_out t.length t c hs t.length 0 (by omega)) ?_
  rintro ex st (⟨rfl, h3, rfl⟩ | ⟨rfl, ⟨j, k, h1, h2, h3⟩, rfl⟩)
  · have e1 := ev_lim (ev_inRange (t.length : Int) 1 5)
    simp only [if_true]
    repeat (first | refine wp_as ?_ | refine wp_ss ?_ | refine wp_rs (by simp [e1]; with_reducible rfl) (by simp; with_reducible rfl) ?_ | refine wp_reg (by simp [e1]; with_reducible rfl) (by simp; with_reducible rfl) ?_ | (refine wp_ct (t := true) ?_ (fun _ => ?_) (fun hh => nomatch hh); focus (simp [e1]; done)) | (refine wp_ct (t := false) ?_ (fun hh => nomatch hh) (fun _ => ?_); focus (simp [e1]; done)) | (refine wp_c (t := true) ?_ (fun _ => ?_) (fun hh => nomatch hh); focus (simp [e1]; done)) | (refine wp_c (t := false) ?_ (fun hh => nomatch hh) (fun _ => ?_); focus (simp [e1]; done)) | refine wp_bs ?_ | refine wp_b ?_ | refine wp_sr ?_ | refine wp_sx ?_ | refine wp_ret' ?_ | refine wp_skip' ?_ | refine wp_exit' ?_)
    have hv : (decide (1 ≤ (t.length : Int)) && decide ((t.length : Int) ≤ 5)) = vT t := by
      refine vT_eq ?_
      rw [Bool.and_eq_true, decide_eq_true_eq, decide_eq_true_eq]
      constructor
      · rintro ⟨h4, h5⟩
        refine ⟨⟨by omega, by omega⟩, fun r hr => ⟨h r hr, fun x hx => ?_⟩, fun a b h1 h2 => (h3 a b (by omega) h1 h2).2⟩
        obtain ⟨i, hi, rfl⟩ := List.getElem_of_mem hr
        obtain ⟨j, hj, rfl⟩ := List.getElem_of_mem hx
        have := (h3 i j (by omega) hi (by have := h _ hr; omega)).1
        rw [g2_eq hi hj] at this
        exact this
      · rintro ht
        have := ht.1
        omega
    rw [← hv]
    simp [if_spec_validTournament]
  · have hv : vT t = false := by
      refine vT_false.2 fun ht => h3 ⟨?_, ht.2.2 j k h1 h2⟩
      have hj := ht.2.1 _ (List.getElem_mem h1)
      have hk : k < t[j].length := by omega
      rw [g2_eq h1 hk]
      exact hj.2 _ (List.getElem_mem hk)
    rw [hv]
    simp [if_spec_validTournament]

end Go.Idl

namespace Go.Idl

open Go

theorem ev_Index (xs : List Int) (c : Bool) (y : Int) (hl : xs.length ≤ 1000000) :
    Ev tb l_slices_Index_Sint_int_ [] [L xs c, I y] [] ⟨I (idx (fun x => decide (y = x)) 0 xs), [], [], []⟩ := by
  have loop : ∀ (m i : Nat), i + m = xs.length → wp tb (.loop ic_slices_Index_Sint_int__l7) { T := [(0, L xs c), (1, I y), (7, I xs.length), (8, I i)], loc := [], M := [] }
      (fun ex st => (ex = .exit 0 ∧ idx (fun x => decide (y = x)) i (xs.drop i) = -1 ∧ st = { T := [(0, L xs c), (1, I y), (7, I xs.length), (8, I xs.length), (9, Bo false)], loc := [], M := [] }) ∨
        ex = .ret ∧ st = { T := [(4, I (idx (fun x => decide (y = x)) i (xs.drop i)))], loc := [], M := [] }) := by
    intro m
    induction m with
    | zero =>
      intro i hi
      obtain ⟨h1, h2⟩ := drop_end hi
      have h3 : i = xs.length := hi
      subst h3
      refine wp_loop ?_
      repeat (first | refine wp_as ?_ | refine wp_ss ?_ | refine wp_rs (by simp; with_reducible rfl) (by simp; with_reducible rfl) ?_ | refine wp_reg (by simp; with_reducible rfl) (by simp; with_reducible rfl) ?_ | (refine wp_ct (t := true) ?_ (fun _ => ?_) (fun hh => nomatch hh); focus (simp; done)) | (refine wp_ct (t := false) ?_ (fun hh => nomatch hh) (fun _ => ?_); focus (simp; done)) | (refine wp_c (t := true) ?_ (fun _ => ?_) (fun hh => nomatch hh); focus (simp; done)) | (refine wp_c (t := false) ?_ (fun hh => nomatch hh) (fun _ => ?_); focus (simp; done)) | refine wp_bs ?_ | refine wp_b ?_ | refine wp_sr ?_ | refine wp_sx ?_ | refine wp_ret' ?_ | refine wp_skip' ?_ | refine wp_exit' ?_)
      exact .inl ⟨rfl, by rw [h2]; rfl, rfl⟩
    | succ m ih =>
      intro i hi
      obtain ⟨hi2, h2, h3⟩ := drop_get hi
      have w2 : IntKind.i64.wrap ((i : Int) + 1) = ((i + 1 : Nat) : Int) := wrapS (by omega)
      rw [h2]
      by_cases he : y = xs[i]
      · refine wp_loop ?_
        repeat (first | refine wp_as ?_ | refine wp_ss ?_ | refine wp_rs (by simp [hi2, he]; with_reducible rfl) (by simp; with_reducible rfl) ?_ | refine wp_reg (by simp [hi2, he]; with_reducible rfl) (by simp; with_reducible rfl) ?_ | (refine wp_ct (t := true) ?_ (fun _ => ?_) (fun hh => nomatch hh); focus (simp [hi2, he]; done)) | (refine wp_ct (t := false) ?_ (fun hh => nomatch hh) (fun _ => ?_); focus (simp [hi2, he]; done)) | (refine wp_c (t := true) ?_ (fun _ => ?_) (fun hh => nomatch hh); focus (simp [hi2, he]; done)) | (refine wp_c (t := false) ?_ (fun hh => nomatch hh) (fun _ => ?_); focus (simp [hi2, he]; done)) | refine wp_bs ?_ | refine wp_b ?_ | refine wp_sr ?_ | refine wp_sx ?_ | refine wp_ret' ?_ | refine wp_skip' ?_ | refine wp_exit' ?_)
        exact .inr ⟨rfl, by simp [idx, he]⟩
      · refine wp_loop ?_
        repeat (first | refine wp_as ?_ | refine wp_ss ?_ | refine wp_rs (by simp [hi2, he, w2]; with_reducible rfl) (by simp; with_reducible rfl) ?_ | refine wp_reg (by simp [hi2, he, w2]; with_reducible rfl) (by simp; with_reducible rfl) ?_ | (refine wp_ct (t := true) ?_ (fun _ => ?_) (fun hh => nomatch hh); focus (simp [hi2, he, w2]; done)) | (refine wp_ct (t := false) ?_ (fun hh => nomatch hh) (fun _ => ?_); focus (simp [hi2, he, w2]; done)) | (refine wp_c (t := true) ?_ (fun _ => ?_) (fun hh => nomatch hh); focus (simp [hi2, he, w2]; done)) | (refine wp_c (t := false) ?_ (fun hh => nomatch hh) (fun _ => ?_); focus (simp [hi2, he, w2]; done)) | refine wp_bs ?_ | refine wp_b ?_ | refine wp_sr ?_ | refine wp_sx ?_ | refine wp_ret' ?_ | refine wp_skip' ?_ | refine wp_exit' ?_)
        have := ih (i + 1) (by omega)
        simp only [idx, he, decide_false, Bool.false_eq_true, if_false] at this ⊢
        exact this
  refine call_of_wp tb_slices_Index_Sint_int_ rfl ?_
  repeat (first | refine wp_as ?_ | refine wp_ss ?_ | refine wp_rs (by simp; with_reducible rfl) (by simp; with_reducible rfl) ?_ | refine wp_reg (by simp; with_reducible rfl) (by simp; with_reducible rfl) ?_ | (refine wp_ct (t := true) ?_ (fun _ => ?_) (fun hh => nomatch hh); focus (simp; done)) | (refine wp_ct (t := false) ?_ (fun hh => nomatch hh) (fun _ => ?_); focus (simp; done)) | (refine wp_c (t := true) ?_ (fun _ => ?_) (fun hh => nomatch hh); focus (simp; done)) | (refine wp_c (t := false) ?_ (fun hh => nomatch hh) (fun _ => ?_); focus (simp; done)) | refine wp_bs ?_ | refine wp_b ?_ | refine wp_sr ?_ | refine wp_sx ?_ | refine wp_ret' ?_ | refine wp_skip' ?_ | refine wp_exit' ?_)
  refine wp_imp (loop xs.length 0 (by omega)) ?_
  rintro ex st (⟨rfl, h, rfl⟩ | ⟨rfl, rfl⟩)
  · simp only [if_true]
    simp only [List.drop_zero] at h
    repeat (first | refine wp_as ?_ | refine wp_ss ?_ | refine wp_rs (by simp; with_reducible rfl) (by simp; with_reducible rfl) ?_ | refine wp_reg (by simp; with_reducible rfl) (by simp; with_reducible rfl) ?_ | (refine wp_ct (t := true) ?_ (fun _ => ?_) (fun hh => nomatch hh); focus (simp; done)) | (refine wp_ct (t := false) ?_ (fun hh => nomatch hh) (fun _ => ?_); focus (simp; done)) | (refine wp_c (t := true) ?_ (fun _ => ?_) (fun hh => nomatch hh); focus (simp; done)) | (refine wp_c (t := false) ?_ (fun hh => nomatch hh) (fun _ => ?_); focus (simp; done)) | refine wp_bs ?_ | refine wp_b ?_ | refine wp_sr ?_ | refine wp_sx ?_ | refine wp_ret' ?_ | refine wp_skip' ?_ | refine wp_exit' ?_)
    simp [if_slices_Index_Sint_int_]
    exact h.symm
  · simp [if_slices_Index_Sint_int_]

/-- Sums of the least, over what tournaments must have. -/
def asc0 (s : List Int) : List Int := (fall s).reverse

def overT (s : List Int) (i : Nat) : Int := ((asc0 s).take (i + 1)).sum - ((i : Int) + 1) * i / 2

def over (s : List Int) : List Int := mapR s.length (overT s)

theorem Few.rev {xs : List Int} (h : Few xs) : Few xs.reverse := ⟨by simpa using h.1, fun x hx => h.2 x (by simpa using hx)⟩

theorem ev_over (s : List Int) (c : Bool) (hs : Few s) : Ev tb l_impl_over [] [L s c] [] ⟨O (over s), [], [], []⟩ := by
  have hl := hs.1
  have e1 := ev_lim (ev_falling s c (by omega))
  have hal : (asc0 s).length = s.length := by simp [asc0, fall_len]
  have hfl : (fall s).length = s.length := fall_len s
  have hfa : Few (asc0 s) := hs.fall.rev
  have e2 := ev_lim (ev_Reverse (fall s) (by omega) [[]])
  have loop : ∀ (m i : Nat), i + m = s.length → wp tb (.loop ic_impl_over_l9) { T := [(3, O (asc0 s)), (4, O (mapR i (overT s) ++ List.replicate (s.length - i) 0)), (14, I s.length), (15, I i)], loc := [], M := [] }
      (fun ex st => ex = .exit 0 ∧ st = { T := [(3, O (asc0 s)), (4, O (over s)), (14, I s.length), (15, I s.length), (16, Bo false)], loc := [], M := [] }) := by
    intro m
    induction m with
    | zero =>
      intro i hi
      have h3 : i = s.length := hi
      subst h3
      refine wp_loop ?_
      repeat (first | refine wp_as ?_ | refine wp_ss ?_ | refine wp_rs (by simp; with_reducible rfl) (by simp; with_reducible rfl) ?_ | refine wp_reg (by simp; with_reducible rfl) (by simp; with_reducible rfl) ?_ | (refine wp_ct (t := true) ?_ (fun _ => ?_) (fun hh => nomatch hh); focus (simp; done)) | (refine wp_ct (t := false) ?_ (fun hh => nomatch hh) (fun _ => ?_); focus (simp; done)) | (refine wp_c (t := true) ?_ (fun _ => ?_) (fun hh => nomatch hh); focus (simp; done)) | (refine wp_c (t := false) ?_ (fun hh => nomatch hh) (fun _ => ?_); focus (simp; done)) | refine wp_bs ?_ | refine wp_b ?_ | refine wp_sr ?_ | refine wp_sx ?_ | refine wp_ret' ?_ | refine wp_skip' ?_ | refine wp_exit' ?_)
      simp [over]
    | succ m ih =>
      intro i hi
      have hi2 : i < s.length := by omega
      have w2 : IntKind.i64.wrap ((i : Int) + 1) = (i : Int) + 1 := wrap64 (by omega) (by omega)
      have ht := hfa.take (i + 1)
      have hsum := ht.sum
      have e3 := fun cc => ev_lim (ev_sum ((asc0 s).take (i + 1)) cc ht.small)
      have hmm : 0 ≤ ((i : Int) + 1) * i ∧ ((i : Int) + 1) * i ≤ 56 := by
        have h8 : i ≤ 6 := by omega
        have : ∀ j : Nat, j ≤ 6 → 0 ≤ ((j : Int) + 1) * j ∧ ((j : Int) + 1) * j ≤ 56 := by decide
        exact this i h8
      have w3 : IntKind.i64.wrap (((i : Int) + 1) * i) = ((i : Int) + 1) * i := wrap64 (by omega) (by omega)
      have hq : Int.tdiv (((i : Int) + 1) * i) 2 = ((i : Int) + 1) * i / 2 := by rw [Int.tdiv_eq_ediv_of_nonneg hmm.1]
      have w4 : IntKind.i64.wrap (((i : Int) + 1) * i / 2) = ((i : Int) + 1) * i / 2 := wrap64 (by omega) (by omega)
      have w5 : IntKind.i64.wrap (((asc0 s).take (i + 1)).sum - ((i : Int) + 1) * i / 2) = overT s i := by rw [overT]; exact wrap64 (by omega) (by omega)
      have h5 : i + 1 ≤ s.length := by omega
      have hln : (mapR i (overT s)).length = i := by simp [mapR]
      have hlt : i < i + (s.length - i) := by omega
      have hs' := mapR_succ_set (overT s) hi2
      refine wp_loop ?_
      repeat (first | refine wp_as ?_ | refine wp_ss ?_ | refine wp_rs (by simp [hi2, hal, w2, h5, e3, w3, hq, w4, w5, hln, hlt, hs']; with_reducible rfl) (by simp; with_reducible rfl) ?_ | refine wp_reg (by simp [hi2, hal, w2, h5, e3, w3, hq, w4, w5, hln, hlt, hs']; with_reducible rfl) (by simp; with_reducible rfl) ?_ | (refine wp_ct (t := true) ?_ (fun _ => ?_) (fun hh => nomatch hh); focus (simp [hi2, hal, w2, h5, e3, w3, hq, w4, w5, hln, hlt, hs']; done)) | (refine wp_ct (t := false) ?_ (fun hh => nomatch hh) (fun _ => ?_); focus (simp [hi2, hal, w2, h5, e3, w3, hq, w4, w5, hln, hlt, hs']; done)) | (refine wp_c (t := true) ?_ (fun _ => ?_) (fun hh => nomatch hh); focus (simp [hi2, hal, w2, h5, e3, w3, hq, w4, w5, hln, hlt, hs']; done)) | (refine wp_c (t := false) ?_ (fun hh => nomatch hh) (fun _ => ?_); focus (simp [hi2, hal, w2, h5, e3, w3, hq, w4, w5, hln, hlt, hs']; done)) | refine wp_bs ?_ | refine wp_b ?_ | refine wp_sr ?_ | refine wp_sx ?_ | refine wp_ret' ?_ | refine wp_skip' ?_ | refine wp_exit' ?_)
      have := ih (i + 1) (by omega)
      simpa using this
  refine call_of_wp tb_impl_over rfl ?_
  repeat (first | refine wp_as ?_ | refine wp_ss ?_ | refine wp_rs (by simp [e1, e2, hfl, show s.length ≤ 274877906944 by omega]; with_reducible rfl) (by simp; with_reducible rfl) ?_ | refine wp_reg (by simp [e1, e2, hfl, show s.length ≤ 274877906944 by omega]; with_reducible rfl) (by simp; with_reducible rfl) ?_ | (refine wp_ct (t := true) ?_ (fun _ => ?_) (fun hh => nomatch hh); focus (simp [e1, e2, hfl, show s.length ≤ 274877906944 by omega]; done)) | (refine wp_ct (t := false) ?_ (fun hh => nomatch hh) (fun _ => ?_); focus (simp [e1, e2, hfl, show s.length ≤ 274877906944 by omega]; done)) | (refine wp_c (t := true) ?_ (fun _ => ?_) (fun hh => nomatch hh); focus (simp [e1, e2, hfl, show s.length ≤ 274877906944 by omega]; done)) | (refine wp_c (t := false) ?_ (fun hh => nomatch hh) (fun _ => ?_); focus (simp [e1, e2, hfl, show s.length ≤ 274877906944 by omega]; done)) | refine wp_bs ?_ | refine wp_b ?_ | refine wp_sr ?_ | refine wp_sx ?_ | refine wp_ret' ?_ | refine wp_skip' ?_ | refine wp_exit' ?_)
  have := loop s.length 0 (by simp)
  simp [mapR, asc0] at this
  refine wp_imp this ?_
  rintro ex st ⟨rfl, rfl⟩
  simp only [if_true]
  repeat (first | refine wp_as ?_ | refine wp_ss ?_ | refine wp_rs (by simp; with_reducible rfl) (by simp; with_reducible rfl) ?_ | refine wp_reg (by simp; with_reducible rfl) (by simp; with_reducible rfl) ?_ | (refine wp_ct (t := true) ?_ (fun _ => ?_) (fun hh => nomatch hh); focus (simp; done)) | (refine wp_ct (t := false) ?_ (fun hh => nomatch hh) (fun _ => ?_); focus (simp; done)) | (refine wp_c (t := true) ?_ (fun _ => ?_) (fun hh => nomatch hh); focus (simp; done)) | (refine wp_c (t := false) ?_ (fun hh => nomatch hh) (fun _ => ?_); focus (simp; done)) | refine wp_bs ?_ | refine wp_b ?_ | refine wp_sr ?_ | refine wp_sx ?_ | refine wp_ret' ?_ | refine wp_skip' ?_ | refine wp_exit' ?_)
  simp [if_impl_over, over, mapR]

end Go.Idl

namespace Go.Idl

open Go

def bytes (xs : List Int) : List (List IV) := xs.map fun n => [.sc (.int .u8 n)]

@[simp] theorem bytes_len (xs : List Int) : (bytes xs).length = xs.length := by simp [bytes]

@[simp] theorem bytes_take (xs : List Int) (n : Nat) : (bytes xs).take n = bytes (xs.take n) := by simp [bytes, List.map_take]

@[simp] theorem bytes_get? (xs : List Int) (i : Nat) : (bytes xs)[i]? = xs[i]?.map fun n => [IV.sc (.int .u8 n)] := by simp [bytes]

@[simp] theorem bytes_get (xs : List Int) (i : Nat) (h : i < (bytes xs).length) : (bytes xs)[i] = [IV.sc (.int .u8 (xs[i]'(by simpa [bytes] using h)))] := by simp [bytes]

@[simp] theorem bytes_emp (xs : List Int) : (bytes xs).isEmpty = xs.isEmpty := by cases xs <;> rfl

@[simp] theorem bytes_all1 (xs : List Int) : ((bytes xs).all fun x => x.all IV.plain1) = true := by
  induction xs with
  | nil => rfl
  | cons x xs ih => simp only [bytes, List.map_cons, List.all_cons] at *; rw [ih]; rfl

@[simp] theorem bytes_all2 (xs : List Int) : ((bytes xs).all fun x => x.all IV.isData) = true := by
  induction xs with
  | nil => rfl
  | cons x xs ih => simp only [bytes, List.map_cons, List.all_cons] at *; rw [ih]; rfl

@[simp] theorem bytes_noLst (xs : List Int) : noLstLL (bytes xs) = true := by
  induction xs with
  | nil => rfl
  | cons x xs ih => simp only [bytes, List.map_cons, noLstLL, noLstL, noLstV] at *; rw [ih]; rfl

/-- The cells of a reader. -/
abbrev R (code : List Int) (c : Bool) (n : Int) : List IV := [.lst 1 (bytes code) c, I n]

def CodeOk (code : List Int) : Prop := code.length ≤ 2000 ∧ ∀ x ∈ code, 0 ≤ x ∧ x ≤ 255

theorem xor_ok (a b : Nat) (ha : a < 2 ^ 40) (hb : b < 2 ^ 40) : ∃ n : Nat, n < 2 ^ 40 ∧ binOp .xor 0 (Value.int .i64 a) (Value.int .i64 b) = Sem.pure (Value.int .i64 n) := by
  refine ⟨a ^^^ b, Nat.xor_lt_two_pow ha hb, ?_⟩
  have h := Nat.xor_lt_two_pow ha hb
  have e : IntKind.i64.wrap (((BitVec.ofInt 64 (a : Int)) ^^^ (BitVec.ofInt 64 (b : Int))).toNat : Int) = ((a ^^^ b : Nat) : Int) := by
    have h1 : ((BitVec.ofInt 64 (a : Int)) ^^^ (BitVec.ofInt 64 (b : Int))).toNat = a ^^^ b := by
      rw [BitVec.toNat_xor, BitVec.ofInt_natCast, BitVec.ofInt_natCast, BitVec.toNat_ofNat, BitVec.toNat_ofNat, Nat.mod_eq_of_lt (by omega), Nat.mod_eq_of_lt (by omega)]
    rw [h1, wrapN (by omega)]
  show Sem.pure (Value.int .i64 (IntKind.i64.wrap (((BitVec.ofInt 64 (a : Int)) ^^^ (BitVec.ofInt 64 (b : Int))).toNat : Int))) = _
  rw [e]

theorem tmod_range {x n : Int} (hx : 0 ≤ x) (hn : 1 ≤ n) : 0 ≤ x.tmod n ∧ x.tmod n < n := by
  rw [Int.tmod_eq_emod_of_nonneg hx]
  exact ⟨Int.emod_nonneg _ (by omega), Int.emod_lt_of_pos _ (by omega)⟩

theorem ev_pick (code : List Int) (c : Bool) (hc : CodeOk code) (cnt : Nat) (hn : cnt ≤ 1000000) (n : Int) (hn2 : n ≤ 1000000) (bs : Boxes) (Ms : List Boxes) :
    ∃ v : Nat, (1 ≤ n → (v : Int) < n) ∧ Ev tb l_spec_reader_pick [] [.bptr 0 0 0, I n] ((R code c cnt :: bs) :: Ms) ⟨I v, [], (R code c ((cnt + 1 : Nat) : Int) :: bs) :: Ms, []⟩ := by
  have w1 : IntKind.i64.wrap ((cnt : Int) + 1) = ((cnt + 1 : Nat) : Int) := wrapS (by omega)
  by_cases h1 : n < 1
  · refine ⟨0, by omega, ?_⟩
    refine call_of_wp tb_spec_reader_pick rfl ?_
    repeat (first | refine wp_as ?_ | refine wp_ss ?_ | refine wp_rs (by simp [w1, h1]; with_reducible rfl) (by simp; with_reducible rfl) ?_ | refine wp_reg (by simp [w1, h1]; with_reducible rfl) (by simp; with_reducible rfl) ?_ | (refine wp_ct (t := true) ?_ (fun _ => ?_) (fun hh => nomatch hh); focus (simp [w1, h1]; done)) | (refine wp_ct (t := false) ?_ (fun hh => nomatch hh) (fun _ => ?_); focus (simp [w1, h1]; done)) | (refine wp_c (t := true) ?_ (fun _ => ?_) (fun hh => nomatch hh); focus (simp [w1, h1]; done)) | (refine wp_c (t := false) ?_ (fun hh => nomatch hh) (fun _ => ?_); focus (simp [w1, h1]; done)) | refine wp_bs ?_ | refine wp_b ?_ | refine wp_sr ?_ | refine wp_sx ?_ | refine wp_ret' ?_ | refine wp_skip' ?_ | refine wp_exit' ?_)
    simp [if_spec_reader_pick]
  by_cases h2 : code = []
  · subst h2
    refine ⟨0, by omega, ?_⟩
    refine call_of_wp tb_spec_reader_pick rfl ?_
    repeat (first | refine wp_as ?_ | refine wp_ss ?_ | refine wp_rs (by simp [w1, h1]; with_reducible rfl) (by simp; with_reducible rfl) ?_ | refine wp_reg (by simp [w1, h1]; with_reducible rfl) (by simp; with_reducible rfl) ?_ | (refine wp_ct (t := true) ?_ (fun _ => ?_) (fun hh => nomatch hh); focus (simp [w1, h1]; done)) | (refine wp_ct (t := false) ?_ (fun hh => nomatch hh) (fun _ => ?_); focus (simp [w1, h1]; done)) | (refine wp_c (t := true) ?_ (fun _ => ?_) (fun hh => nomatch hh); focus (simp [w1, h1]; done)) | (refine wp_c (t := false) ?_ (fun hh => nomatch hh) (fun _ => ?_); focus (simp [w1, h1]; done)) | refine wp_bs ?_ | refine wp_b ?_ | refine wp_sr ?_ | refine wp_sx ?_ | refine wp_ret' ?_ | refine wp_skip' ?_ | refine wp_exit' ?_)
    simp [if_spec_reader_pick]
  have h2' : ¬ (code.length : Int) = 0 := by
    have : code.length ≠ 0 := fun h => h2 (List.length_eq_zero_iff.1 h)
    omega
  have w2 : IntKind.i64.wrap (cnt : Int) = (cnt : Int) := wrapN (by omega)
  have hn0 : ¬ n = 0 := by omega
  by_cases h3 : cnt < code.length
  · have hb := hc.2 code[cnt] (List.getElem_mem h3)
    have w3 : IntKind.i64.wrap code[cnt] = code[cnt] := wrap64 (by omega) (by omega)
    have hr := tmod_range hb.1 (n := n) (by omega)
    obtain ⟨v, hv⟩ := Int.eq_ofNat_of_zero_le hr.1
    rw [hv] at hr
    refine ⟨v, fun _ => hr.2, ?_⟩
    refine call_of_wp tb_spec_reader_pick rfl ?_
    repeat (first | refine wp_as ?_ | refine wp_ss ?_ | refine wp_rs (by simp [w1, w2, h1, h2, h2', h3, w3, hn0, hv]; with_reducible rfl) (by simp; with_reducible rfl) ?_ | refine wp_reg (by simp [w1, w2, h1, h2, h2', h3, w3, hn0, hv]; with_reducible rfl) (by simp; with_reducible rfl) ?_ | (refine wp_ct (t := true) ?_ (fun _ => ?_) (fun hh => nomatch hh); focus (simp [w1, w2, h1, h2, h2', h3, w3, hn0, hv]; done)) | (refine wp_ct (t := false) ?_ (fun hh => nomatch hh) (fun _ => ?_); focus (simp [w1, w2, h1, h2, h2', h3, w3, hn0, hv]; done)) | (refine wp_c (t := true) ?_ (fun _ => ?_) (fun hh => nomatch hh); focus (simp [w1, w2, h1, h2, h2', h3, w3, hn0, hv]; done)) | (refine wp_c (t := false) ?_ (fun hh => nomatch hh) (fun _ => ?_); focus (simp [w1, w2, h1, h2, h2', h3, w3, hn0, hv]; done)) | refine wp_bs ?_ | refine wp_b ?_ | refine wp_sr ?_ | refine wp_sx ?_ | refine wp_ret' ?_ | refine wp_skip' ?_ | refine wp_exit' ?_)
    simp [if_spec_reader_pick]
  have hl0 : 0 < code.length := by omega
  have hlen := hc.1
  obtain ⟨i1, hi1, m1⟩ : ∃ i1 : Nat, i1 < code.length ∧ (cnt : Int).tmod (code.length : Int) = (i1 : Int) :=
    ⟨cnt % code.length, Nat.mod_lt _ hl0, rfl⟩
  obtain ⟨i2, hi2, m2⟩ : ∃ i2 : Nat, i2 < code.length ∧ ((cnt : Int) * 7 + 3).tmod (code.length : Int) = (i2 : Int) :=
    ⟨(cnt * 7 + 3) % code.length, Nat.mod_lt _ hl0, rfl⟩
  obtain ⟨q, hq, m3⟩ : ∃ q : Nat, q ≤ cnt ∧ (cnt : Int).tdiv (code.length : Int) = (q : Int) :=
    ⟨cnt / code.length, Nat.div_le_self _ _, rfl⟩
  have hb1 := hc.2 code[i1] (List.getElem_mem hi1)
  have hb2 := hc.2 code[i2] (List.getElem_mem hi2)
  generalize hx1 : code[i1] = b1 at hb1
  generalize hx2 : code[i2] = b2 at hb2
  have v1 : IntKind.i64.wrap b1 = b1 := wrap64 (by omega) (by omega)
  have v2 : IntKind.i64.wrap b2 = b2 := wrap64 (by omega) (by omega)
  have v3 : IntKind.i64.wrap (b1 * 131) = b1 * 131 := wrap64 (by omega) (by omega)
  have v4 : IntKind.i64.wrap (b2 * 1117) = b2 * 1117 := wrap64 (by omega) (by omega)
  have v5 : IntKind.i64.wrap (b1 * 131 + b2 * 1117) = b1 * 131 + b2 * 1117 := wrap64 (by omega) (by omega)
  have v6 : IntKind.i64.wrap ((cnt : Int) * 7) = (cnt : Int) * 7 := wrap64 (by omega) (by omega)
  have v7 : IntKind.i64.wrap ((cnt : Int) * 7 + 3) = (cnt : Int) * 7 + 3 := wrap64 (by omega) (by omega)
  have v8 : IntKind.i64.wrap ((cnt : Int) * 29) = (cnt : Int) * 29 := wrap64 (by omega) (by omega)
  have v9 : IntKind.i64.wrap (q : Int) = (q : Int) := wrap64 (by omega) (by omega)
  have v10 : IntKind.i64.wrap ((q : Int) * 53) = (q : Int) * 53 := wrap64 (by omega) (by omega)
  have v11 : IntKind.i64.wrap (b1 * 131 + b2 * 1117 + (cnt : Int) * 29) = b1 * 131 + b2 * 1117 + (cnt : Int) * 29 := wrap64 (by omega) (by omega)
  obtain ⟨x, hx, ex⟩ : ∃ x : Nat, x < 2 ^ 40 ∧ b1 * 131 + b2 * 1117 + (cnt : Int) * 29 + (q : Int) * 53 = (x : Int) :=
    ⟨(b1 * 131 + b2 * 1117 + (cnt : Int) * 29 + (q : Int) * 53).toNat, by omega, by omega⟩
  have v12 : IntKind.i64.wrap (x : Int) = (x : Int) := wrap64 (by omega) (by omega)
  obtain ⟨y, hy, ey⟩ : ∃ y : Nat, y < 2 ^ 40 ∧ (x : Int).tdiv 64 = (y : Int) := ⟨x / 64, by omega, rfl⟩
  have ey2 : (x : Int) / 64 = (y : Int) := ey
  have v13 : IntKind.i64.wrap (y : Int) = (y : Int) := wrap64 (by omega) (by omega)
  obtain ⟨z, hz, ez⟩ := xor_ok x y hx hy
  have hr := tmod_range (x := (z : Int)) (by omega) (n := n) (by omega)
  obtain ⟨v, hv⟩ := Int.eq_ofNat_of_zero_le hr.1
  rw [hv] at hr
  refine ⟨v, fun _ => hr.2, ?_⟩
  refine call_of_wp tb_spec_reader_pick rfl ?_
  repeat (first | refine wp_as ?_ | refine wp_ss ?_ | refine wp_rs (by simp [w1, w2, h1, h2, h2', h3, hn0, m1, m2, m3, hi1, hi2, hx1, hx2, v1, v2, v3, v4, v5, v6, v7, v8, v9, v10, v11, ex, v12, ey, ey2, v13, ez, hv]; with_reducible rfl) (by simp; with_reducible rfl) ?_ | refine wp_reg (by simp [w1, w2, h1, h2, h2', h3, hn0, m1, m2, m3, hi1, hi2, hx1, hx2, v1, v2, v3, v4, v5, v6, v7, v8, v9, v10, v11, ex, v12, ey, ey2, v13, ez, hv]; with_reducible rfl) (by simp; with_reducible rfl) ?_ | (refine wp_ct (t := true) ?_ (fun _ => ?_) (fun hh => nomatch hh); focus (simp [w1, w2, h1, h2, h2', h3, hn0, m1, m2, m3, hi1, hi2, hx1, hx2, v1, v2, v3, v4, v5, v6, v7, v8, v9, v10, v11, ex, v12, ey, ey2, v13, ez, hv]; done)) | (refine wp_ct (t := false) ?_ (fun hh => nomatch hh) (fun _ => ?_); focus (simp [w1, w2, h1, h2, h2', h3, hn0, m1, m2, m3, hi1, hi2, hx1, hx2, v1, v2, v3, v4, v5, v6, v7, v8, v9, v10, v11, ex, v12, ey, ey2, v13, ez, hv]; done)) | (refine wp_c (t := true) ?_ (fun _ => ?_) (fun hh => nomatch hh); focus (simp [w1, w2, h1, h2, h2', h3, hn0, m1, m2, m3, hi1, hi2, hx1, hx2, v1, v2, v3, v4, v5, v6, v7, v8, v9, v10, v11, ex, v12, ey, ey2, v13, ez, hv]; done)) | (refine wp_c (t := false) ?_ (fun hh => nomatch hh) (fun _ => ?_); focus (simp [w1, w2, h1, h2, h2', h3, hn0, m1, m2, m3, hi1, hi2, hx1, hx2, v1, v2, v3, v4, v5, v6, v7, v8, v9, v10, v11, ex, v12, ey, ey2, v13, ez, hv]; done)) | refine wp_bs ?_ | refine wp_b ?_ | refine wp_sr ?_ | refine wp_sx ?_ | refine wp_ret' ?_ | refine wp_skip' ?_ | refine wp_exit' ?_)
  simp [if_spec_reader_pick]

theorem ev_newReader (code : List Int) (c : Bool) (M : List Boxes) (hl : code.length ≤ 274877906944) :
    ∃ c', Ev tb l_spec_newReader [] [.lst 1 (bytes code) c] M ⟨.bptr M.length 0 0, [], M, [R (code.take 2000) c' 0]⟩ := by
  have hi : ((code.length : Int) ≤ 2000) ↔ code.length ≤ 2000 := by omega
  by_cases h : 2000 < code.length
  · refine ⟨false, ?_⟩
    have h2 : ¬ code.length ≤ 2000 := by omega
    have h3 : (2000 : Int) < code.length := by omega
    refine call_of_wp tb_spec_newReader rfl ?_
    repeat (first | refine wp_as ?_ | refine wp_ss ?_ | refine wp_rs (by simp [h, h2, h3, show 2000 ≤ code.length by omega, natOf]; with_reducible rfl) (by simp; with_reducible rfl) ?_ | refine wp_reg (by simp [h, h2, h3, show 2000 ≤ code.length by omega, natOf]; with_reducible rfl) (by simp; with_reducible rfl) ?_ | (refine wp_ct (t := true) ?_ (fun _ => ?_) (fun hh => nomatch hh); focus (simp [h, h2, h3, show 2000 ≤ code.length by omega, natOf]; done)) | (refine wp_ct (t := false) ?_ (fun hh => nomatch hh) (fun _ => ?_); focus (simp [h, h2, h3, show 2000 ≤ code.length by omega, natOf]; done)) | (refine wp_c (t := true) ?_ (fun _ => ?_) (fun hh => nomatch hh); focus (simp [h, h2, h3, show 2000 ≤ code.length by omega, natOf]; done)) | (refine wp_c (t := false) ?_ (fun hh => nomatch hh) (fun _ => ?_); focus (simp [h, h2, h3, show 2000 ≤ code.length by omega, natOf]; done)) | refine wp_bs ?_ | refine wp_b ?_ | refine wp_sr ?_ | refine wp_sx ?_ | refine wp_ret' ?_ | refine wp_skip' ?_ | refine wp_exit' ?_)
    simp [if_spec_newReader, h2, h3]
    intro _; omega
  · refine ⟨c, ?_⟩
    have h2 : code.length ≤ 2000 := by omega
    have h3 : ¬ (2000 : Int) < code.length := by omega
    refine call_of_wp tb_spec_newReader rfl ?_
    repeat (first | refine wp_as ?_ | refine wp_ss ?_ | refine wp_rs (by simp [h, h2, h3]; with_reducible rfl) (by simp; with_reducible rfl) ?_ | refine wp_reg (by simp [h, h2, h3]; with_reducible rfl) (by simp; with_reducible rfl) ?_ | (refine wp_ct (t := true) ?_ (fun _ => ?_) (fun hh => nomatch hh); focus (simp [h, h2, h3]; done)) | (refine wp_ct (t := false) ?_ (fun hh => nomatch hh) (fun _ => ?_); focus (simp [h, h2, h3]; done)) | (refine wp_c (t := true) ?_ (fun _ => ?_) (fun hh => nomatch hh); focus (simp [h, h2, h3]; done)) | (refine wp_c (t := false) ?_ (fun hh => nomatch hh) (fun _ => ?_); focus (simp [h, h2, h3]; done)) | refine wp_bs ?_ | refine wp_b ?_ | refine wp_sr ?_ | refine wp_sx ?_ | refine wp_ret' ?_ | refine wp_skip' ?_ | refine wp_exit' ?_)
    simp [if_spec_newReader, List.take_of_length_le h2]

theorem ev_one (code : List Int) (c : Bool) (hc : CodeOk code) (cnt : Nat) (hn : cnt ≤ 1000000) (xs : List Int) (d : Bool) (hl : 0 < xs.length ∧ xs.length ≤ 1000) (bs : Boxes) (Ms : List Boxes) :
    ∃ x : Int, x ∈ xs ∧ Ev tb l_spec_reader_one [] [.bptr 0 0 0, L xs d] ((R code c cnt :: bs) :: Ms) ⟨I x, [], (R code c ((cnt + 1 : Nat) : Int) :: bs) :: Ms, []⟩ := by
  obtain ⟨v, hv, e⟩ := ev_pick code c hc cnt hn (xs.length : Int) (by omega) bs (Ms ++ [[]])
  have hv := hv (by omega)
  have hv2 : v < xs.length := by omega
  have e1 := ev_lim e
  refine ⟨xs[v], List.getElem_mem hv2, ?_⟩
  refine call_of_wp tb_spec_reader_one rfl ?_
  repeat (first | refine wp_as ?_ | refine wp_ss ?_ | refine wp_rs (by simp [e1, hv2]; with_reducible rfl) (by simp; with_reducible rfl) ?_ | refine wp_reg (by simp [e1, hv2]; with_reducible rfl) (by simp; with_reducible rfl) ?_ | (refine wp_ct (t := true) ?_ (fun _ => ?_) (fun hh => nomatch hh); focus (simp [e1, hv2]; done)) | (refine wp_ct (t := false) ?_ (fun hh => nomatch hh) (fun _ => ?_); focus (simp [e1, hv2]; done)) | (refine wp_c (t := true) ?_ (fun _ => ?_) (fun hh => nomatch hh); focus (simp [e1, hv2]; done)) | (refine wp_c (t := false) ?_ (fun hh => nomatch hh) (fun _ => ?_); focus (simp [e1, hv2]; done)) | refine wp_bs ?_ | refine wp_b ?_ | refine wp_sr ?_ | refine wp_sx ?_ | refine wp_ret' ?_ | refine wp_skip' ?_ | refine wp_exit' ?_)
  simp [if_spec_reader_one]

end Go.Idl

namespace Go.Idl

open Go

def eds (xs : List (Int × Int)) : List (List IV) := xs.map fun e => [I e.1, I e.2]

abbrev O2 (xs : List (Int × Int)) : IV := .own 2 (eds xs)

@[simp] theorem eds_len (xs : List (Int × Int)) : (eds xs).length = xs.length := by simp [eds]

@[simp] theorem eds_nil : eds [] = [] := rfl

@[simp] theorem eds_take (xs : List (Int × Int)) (n : Nat) : (eds xs).take n = eds (xs.take n) := by simp [eds, List.map_take]

@[simp] theorem eds_drop (xs : List (Int × Int)) (n : Nat) : (eds xs).drop n = eds (xs.drop n) := by simp [eds, List.map_drop]

@[simp] theorem eds_app (xs ys : List (Int × Int)) : eds xs ++ eds ys = eds (xs ++ ys) := by simp [eds]

@[simp] theorem eds_one (xs : List (Int × Int)) (a b : Int) : eds xs ++ [[IV.sc (.int .i64 a), IV.sc (.int .i64 b)]] = eds (xs ++ [(a, b)]) := by simp [eds]

@[simp] theorem eds_get? (xs : List (Int × Int)) (i : Nat) : (eds xs)[i]? = xs[i]?.map fun e => [IV.sc (.int .i64 e.1), IV.sc (.int .i64 e.2)] := by simp [eds]

@[simp] theorem eds_get (xs : List (Int × Int)) (i : Nat) (h : i < (eds xs).length) : (eds xs)[i] = [IV.sc (.int .i64 (xs[i]'(by simpa [eds] using h)).1), IV.sc (.int .i64 (xs[i]'(by simpa [eds] using h)).2)] := by simp [eds]

@[simp] theorem eds_emp (xs : List (Int × Int)) : (eds xs).isEmpty = xs.isEmpty := by cases xs <;> rfl

@[simp] theorem eds_set (xs : List (Int × Int)) (i : Nat) (a b : Int) : (eds xs).set i [IV.sc (.int .i64 a), IV.sc (.int .i64 b)] = eds (xs.set i (a, b)) := by
  simp [eds, List.map_set]

@[simp] theorem eds_all1 (xs : List (Int × Int)) : ((eds xs).all fun x => x.all IV.plain1) = true := by
  induction xs with
  | nil => rfl
  | cons x xs ih => simp only [eds, List.map_cons, List.all_cons] at *; rw [ih]; rfl

@[simp] theorem eds_all2 (xs : List (Int × Int)) : ((eds xs).all fun x => x.all IV.isData) = true := by
  induction xs with
  | nil => rfl
  | cons x xs ih => simp only [eds, List.map_cons, List.all_cons] at *; rw [ih]; rfl

@[simp] theorem eds_noLst (xs : List (Int × Int)) : noLstLL (eds xs) = true := by
  induction xs with
  | nil => rfl
  | cons x xs ih => simp only [eds, List.map_cons, noLstLL, noLstL, noLstV] at *; rw [ih]; rfl

@[simp] theorem frz_eds (xs : List (Int × Int)) : frzLL (eds xs) = eds xs := by
  induction xs with
  | nil => rfl
  | cons x xs ih => simp only [eds, List.map_cons, frzLL, frzL, frzV] at *; rw [ih]

def row (a b : Nat) : Nat → List (Int × Int)
  | 0 => []
  | m + 1 => ((a : Int), (b : Int)) :: row a (b + 1) m

end Go.Idl

namespace Go.Idl

open Go

/-- A call whose answer is found on the way. -/
theorem call_ex {f : Lab} {fn : IFun} (hf : tb f = some fn) {lent : List Nat} {args : List IV} {M : List Boxes} (hl : lent.all fn.keep.contains = true) {P : Ret → Prop}
    (h : wp tb fn.body { T := args.zipIdx.map fun (v, i) => (i, v), loc := [], M := M } fun ex st => (ex = .normal ∨ ex = .ret) ∧ ∃ r, P r ∧ finish fn lent st = some r) : ∃ r, P r ∧ Ev tb f lent args M r := by
  obtain ⟨ex, st', ⟨h1, r, hP, h2⟩, -, back⟩ := wp_sound h
  exact ⟨r, hP, call_of_wp hf hl (back _ ⟨h1, h2⟩)⟩

theorem pick' (code : List Int) (c : Bool) (hc : CodeOk code) (cnt : Nat) (hn : cnt ≤ 1000000) (n : Int) (hn2 : n ≤ 1000000) (bs : Boxes) (Ms : List Boxes) :
    ∃ v k : Nat, (1 ≤ n → (v : Int) < n) ∧ k ≤ cnt + 1 ∧ limF tb l_spec_reader_pick [] [.bptr 0 0 0, I n] ((R code c cnt :: bs) :: Ms) = some ⟨I v, [], (R code c k :: bs) :: Ms, []⟩ := by
  obtain ⟨v, h, e⟩ := ev_pick code c hc cnt hn n hn2 bs Ms
  exact ⟨v, cnt + 1, h, by omega, ev_lim e⟩

end Go.Idl

namespace Go.Idl

open Go

/-- Numbers that are not great. -/
def Low (B : Int) (d : List Int) : Prop := ∀ x ∈ d, -B ≤ x ∧ x ≤ B

theorem Low.set {B : Int} {d : List Int} (h : Low B d) {i : Nat} {x : Int} (hx : -B ≤ x ∧ x ≤ B) : Low B (d.set i x) := by
  intro y hy
  rcases List.mem_or_eq_of_mem_set hy with hy | rfl
  · exact h y hy
  · exact hx

theorem one2 (code : List Int) (c : Bool) (hc : CodeOk code) (cnt : Nat) (hn : cnt ≤ 1000000) (xs : List Int) (hl : 0 < xs.length ∧ xs.length ≤ 1000) (bs : Boxes) (Ms : List Boxes) :
    ∃ (x : Int) (k : Nat), x ∈ xs ∧ k ≤ cnt + 1 ∧ limF tb l_spec_reader_one [] [.bptr 0 0 0, .lst 1 (ints xs) false] ((R code c cnt :: bs) :: Ms) = some ⟨I x, [], (R code c k :: bs) :: Ms, []⟩ := by
  obtain ⟨v, h, e⟩ := ev_one code c hc cnt hn xs false hl bs Ms
  exact ⟨v, cnt + 1, h, by omega, ev_lim e⟩

end Go.Idl

namespace Go.Idl

open Go

/-- Scores. -/
def scr (t : List (List Int)) (j : Nat) : Int := (t.getD j []).sum

def scores (t : List (List Int)) : List Int := mapR t.length (scr t)

theorem sum01 (r : List Int) (h : ∀ x ∈ r, 0 ≤ x ∧ x ≤ 1) : 0 ≤ r.sum ∧ r.sum ≤ r.length := by
  induction r with
  | nil => simp
  | cons x xs ih =>
    have h1 := h x (by simp)
    have h2 := ih fun y hy => h y (by simp [hy])
    simp only [List.sum_cons, List.length_cons]; omega

theorem set_bound {B : List Int} {k : Nat} {b v : Int} (h : ∀ x ∈ B, 0 ≤ x ∧ x ≤ b) (hv : 0 ≤ v ∧ v ≤ b + 1) (hb : 0 ≤ b) : ∀ x ∈ B.set k v, 0 ≤ x ∧ x ≤ b + 1 := by
  intro x hx
  rcases List.mem_or_eq_of_mem_set hx with hx | rfl
  · have := h x hx; omega
  · exact hv

theorem mg_in (n : Nat) (t : List (List Int)) (c : Bool) (i : Nat) (r : List Int) (hn : n ≤ 5) (hi : i < n) (hr : r.length = n) (h01 : ∀ x ∈ r, 0 ≤ x ∧ x ≤ 1) :
    ∀ (m k : Nat) (A B : List Int) (b : Nat), k + m = n → A.length = n → B.length = n → (∀ x ∈ B, 0 ≤ x ∧ x ≤ (b : Int)) → b + m ≤ 1000 → (∀ h : i < A.length, A[i] = (r.take k).sum) →
    wp tb (.loop ic_impl_MarginsOf_l13) { T := [(0, TL t c), (4, O A), (5, O B), (6, I i), (7, L r), (21, TL t c), (22, I n), (23, I i), (28, L r), (29, I n), (30, I k)], loc := [], M := [] }
      (fun ex st => ex = .exit 2 ∧ ∃ B' : List Int, B'.length = n ∧ (∀ x ∈ B', 0 ≤ x ∧ x ≤ ((b + m : Nat) : Int)) ∧
        st = { T := [(0, TL t c), (4, O (A.set i r.sum)), (5, O B'), (6, I i), (7, L r), (21, TL t c), (22, I n), (23, I i), (28, L r), (29, I n), (30, I n), (31, Bo false)], loc := [], M := [] }) := by
  intro m
  induction m with
  | zero =>
    intro k A B b hk hA hB hb hbm hAi
    have h3 : k = n := hk
    subst h3
    have hi' : i < A.length := by omega
    have hs : A.set i r.sum = A := by
      have := hAi hi'
      rw [List.take_of_length_le (by omega)] at this
      rw [← this]; simp
    refine wp_loop ?_
    repeat (first | refine wp_as ?_ | refine wp_ss ?_ | refine wp_rs (by simp; with_reducible rfl) (by simp; with_reducible rfl) ?_ | refine wp_reg (by simp; with_reducible rfl) (by simp; with_reducible rfl) ?_ | (refine wp_ct (t := true) ?_ (fun _ => ?_) (fun hh => nomatch hh); focus (simp; done)) | (refine wp_ct (t := false) ?_ (fun hh => nomatch hh) (fun _ => ?_); focus (simp; done)) | (refine wp_c (t := true) ?_ (fun _ => ?_) (fun hh => nomatch hh); focus (simp; done)) | (refine wp_c (t := false) ?_ (fun hh => nomatch hh) (fun _ => ?_); focus (simp; done)) | refine wp_bs ?_ | refine wp_b ?_ | refine wp_sr ?_ | refine wp_sx ?_ | refine wp_ret' ?_ | refine wp_skip' ?_ | refine wp_exit' ?_)
    exact ⟨rfl, B, hB, hb, by rw [hs]⟩
  | succ m ih =>
    intro k A B b hk hA hB hb hbm hAi
    have hkn : k < n := by omega
    have hkr : k < r.length := by omega
    have hiA : i < A.length := by omega
    have hkB : k < B.length := by omega
    have w2 : IntKind.i64.wrap ((k : Int) + 1) = ((k + 1 : Nat) : Int) := wrapS (by omega)
    have hx := h01 _ (List.getElem_mem hkr)
    have hy := hb _ (List.getElem_mem hkB)
    have ht := (sum_take_succ hkr).symm
    have hbd := sum01 (r.take (k + 1)) (fun x hx => h01 x (List.mem_of_mem_take hx))
    have hle : (r.take (k + 1)).length ≤ 5 := by simp; omega
    have hAi := hAi hiA
    generalize hs1 : (r.take (k + 1)).sum = s1 at *
    generalize (r.take k).sum = s0 at *
    have w1 : IntKind.i64.wrap (s0 + r[k]) = s1 := by rw [← ht]; exact wrap64 (by omega) (by omega)
    have w3 : IntKind.i64.wrap (B[k] + r[k]) = B[k] + r[k] := wrap64 (by omega) (by omega)
    refine wp_loop ?_
    repeat (first | refine wp_as ?_ | refine wp_ss ?_ | refine wp_rs (by simp [hkn, hkr, hiA, hkB, hAi, w1, w2, w3]; with_reducible rfl) (by simp; with_reducible rfl) ?_ | refine wp_reg (by simp [hkn, hkr, hiA, hkB, hAi, w1, w2, w3]; with_reducible rfl) (by simp; with_reducible rfl) ?_ | (refine wp_ct (t := true) ?_ (fun _ => ?_) (fun hh => nomatch hh); focus (simp [hkn, hkr, hiA, hkB, hAi, w1, w2, w3]; done)) | (refine wp_ct (t := false) ?_ (fun hh => nomatch hh) (fun _ => ?_); focus (simp [hkn, hkr, hiA, hkB, hAi, w1, w2, w3]; done)) | (refine wp_c (t := true) ?_ (fun _ => ?_) (fun hh => nomatch hh); focus (simp [hkn, hkr, hiA, hkB, hAi, w1, w2, w3]; done)) | (refine wp_c (t := false) ?_ (fun hh => nomatch hh) (fun _ => ?_); focus (simp [hkn, hkr, hiA, hkB, hAi, w1, w2, w3]; done)) | refine wp_bs ?_ | refine wp_b ?_ | refine wp_sr ?_ | refine wp_sx ?_ | refine wp_ret' ?_ | refine wp_skip' ?_ | refine wp_exit' ?_)
    refine wp_imp (ih (k + 1) (A.set i s1) (B.set k (B[k] + r[k])) (b + 1) (by omega) (by simp [hA]) (by simp [hB])
      (fun x hx => by have := set_bound hb (by omega : 0 ≤ B[k] + r[k] ∧ B[k] + r[k] ≤ (b : Int) + 1) (by omega) x hx; omega) (by omega) (by intro h; simp [hs1])) ?_
    rintro ex st ⟨rfl, B', h1, h2, rfl⟩
    exact ⟨rfl, B', h1, fun x hx => by have := h2 x hx; omega, by simp⟩

theorem mg_out (n : Nat) (t : List (List Int)) (c : Bool) (hl : t.length = n) (hn : n ≤ 5) (hr : ∀ r ∈ t, r.length = n ∧ ∀ x ∈ r, 0 ≤ x ∧ x ≤ 1) :
    ∀ (m i : Nat) (B : List Int) (b : Nat), i + m = n → B.length = n → (∀ x ∈ B, 0 ≤ x ∧ x ≤ (b : Int)) → b + 10 * m ≤ 500 →
    wp tb (.loop ic_impl_MarginsOf_l15) { T := [(0, TL t c), (4, O (mapR i (scr t) ++ List.replicate (n - i) 0)), (5, O B), (21, TL t c), (22, I n), (23, I i)], loc := [], M := [] }
      (fun ex st => ex = .exit 0 ∧ ∃ B' : List Int, B'.length = n ∧ (∀ x ∈ B', 0 ≤ x ∧ x ≤ 1000) ∧ st = { T := [(0, TL t c), (4, O (scores t)), (5, O B'), (21, TL t c), (22, I n), (23, I n), (24, Bo false)], loc := [], M := [] }) := by
  intro m
  induction m with
  | zero =>
    intro i B b hi hB hb hbm
    have h3 : i = n := hi
    subst h3
    refine wp_loop ?_
    repeat (first | refine wp_as ?_ | refine wp_ss ?_ | refine wp_rs (by simp; with_reducible rfl) (by simp; with_reducible rfl) ?_ | refine wp_reg (by simp; with_reducible rfl) (by simp; with_reducible rfl) ?_ | (refine wp_ct (t := true) ?_ (fun _ => ?_) (fun hh => nomatch hh); focus (simp; done)) | (refine wp_ct (t := false) ?_ (fun hh => nomatch hh) (fun _ => ?_); focus (simp; done)) | (refine wp_c (t := true) ?_ (fun _ => ?_) (fun hh => nomatch hh); focus (simp; done)) | (refine wp_c (t := false) ?_ (fun hh => nomatch hh) (fun _ => ?_); focus (simp; done)) | refine wp_bs ?_ | refine wp_b ?_ | refine wp_sr ?_ | refine wp_sx ?_ | refine wp_ret' ?_ | refine wp_skip' ?_ | refine wp_exit' ?_)
    exact ⟨rfl, B, hB, fun x hx => by have := hb x hx; omega, by simp [scores, hl]⟩
  | succ m ih =>
    intro i B b hi hB hb hbm
    have hin : i < n := by omega
    have hit : i < t.length := by omega
    have w2 : IntKind.i64.wrap ((i : Int) + 1) = ((i + 1 : Nat) : Int) := wrapS (by omega)
    have hri := hr _ (List.getElem_mem hit)
    have hrl := hri.1
    have hA : (mapR i (scr t) ++ List.replicate (n - i) 0).length = n := by simp [mapR]; omega
    have hs := mapR_succ_set (scr t) hin
    have hsc : scr t i = t[i].sum := by simp [scr, List.getD_eq_getElem?_getD, List.getElem?_eq_getElem hit]
    refine wp_loop ?_
    repeat (first | refine wp_as ?_ | refine wp_ss ?_ | refine wp_rs (by simp [hin, hit, hrl]; with_reducible rfl) (by simp; with_reducible rfl) ?_ | refine wp_reg (by simp [hin, hit, hrl]; with_reducible rfl) (by simp; with_reducible rfl) ?_ | (refine wp_ct (t := true) ?_ (fun _ => ?_) (fun hh => nomatch hh); focus (simp [hin, hit, hrl]; done)) | (refine wp_ct (t := false) ?_ (fun hh => nomatch hh) (fun _ => ?_); focus (simp [hin, hit, hrl]; done)) | (refine wp_c (t := true) ?_ (fun _ => ?_) (fun hh => nomatch hh); focus (simp [hin, hit, hrl]; done)) | (refine wp_c (t := false) ?_ (fun hh => nomatch hh) (fun _ => ?_); focus (simp [hin, hit, hrl]; done)) | refine wp_bs ?_ | refine wp_b ?_ | refine wp_sr ?_ | refine wp_sx ?_ | refine wp_ret' ?_ | refine wp_skip' ?_ | refine wp_exit' ?_)
    refine wp_imp (mg_in n t c i t[i] hn hin hrl hri.2 n 0 _ B b (by omega) hA hB hb (by omega) ?_) ?_
    · intro h
      rw [List.getElem_append_right (by simp [mapR])]; simp
    · rintro ex st ⟨rfl, B', h1, h2, rfl⟩
      simp only [if_true]
      rw [← hsc, hs]
      repeat (first | refine wp_as ?_ | refine wp_ss ?_ | refine wp_rs (by simp [w2]; with_reducible rfl) (by simp; with_reducible rfl) ?_ | refine wp_reg (by simp [w2]; with_reducible rfl) (by simp; with_reducible rfl) ?_ | (refine wp_ct (t := true) ?_ (fun _ => ?_) (fun hh => nomatch hh); focus (simp [w2]; done)) | (refine wp_ct (t := false) ?_ (fun hh => nomatch hh) (fun _ => ?_); focus (simp [w2]; done)) | (refine wp_c (t := true) ?_ (fun _ => ?_) (fun hh => nomatch hh); focus (simp [w2]; done)) | (refine wp_c (t := false) ?_ (fun hh => nomatch hh) (fun _ => ?_); focus (simp [w2]; done)) | refine wp_bs ?_ | refine wp_b ?_ | refine wp_sr ?_ | refine wp_sx ?_ | refine wp_ret' ?_ | refine wp_skip' ?_ | refine wp_exit' ?_)
      refine wp_imp (ih (i + 1) B' (b + n) (by omega) h1 h2 (by omega)) ?_
      rintro ex st ⟨rfl, B'', h3, h4, rfl⟩
      exact ⟨rfl, B'', h3, h4, rfl⟩

theorem ev_MarginsOf (t : List (List Int)) (c : Bool) (ht : Tour t) : ∃ B, limF tb l_impl_MarginsOf [] [TL t c] [] = some ⟨.tup [O (scores t), O B], [], [], []⟩ := by
  suffices h : ∃ r, (∃ B, r = ⟨.tup [O (scores t), O B], [], [], []⟩) ∧ Ev tb l_impl_MarginsOf [] [TL t c] [] r by
    obtain ⟨r, ⟨B, rfl⟩, h⟩ := h
    exact ⟨B, ev_lim h⟩
  have hl := ht.1
  have h0 : 0 < t.length := by omega
  have hr0 := (ht.2.1 _ (List.getElem_mem h0)).1
  have hm : mOk t = true := by
    refine (mOk_iff t ?_).2 ⟨ht.1, ht.2.1⟩
    simp [List.getD_eq_getElem?_getD, List.getElem?_eq_getElem h0, hr0]
  have e1 := ev_lim (ev_ValidMatrix t c (by omega) (fun r hr => by have := (ht.2.1 r hr).1; omega))
  rw [hm] at e1
  refine call_ex tb_impl_MarginsOf rfl ?_
  repeat (first | refine wp_as ?_ | refine wp_ss ?_ | refine wp_rs (by simp [e1]; with_reducible rfl) (by simp; with_reducible rfl) ?_ | refine wp_reg (by simp [e1]; with_reducible rfl) (by simp; with_reducible rfl) ?_ | (refine wp_ct (t := true) ?_ (fun _ => ?_) (fun hh => nomatch hh); focus (simp [e1]; done)) | (refine wp_ct (t := false) ?_ (fun hh => nomatch hh) (fun _ => ?_); focus (simp [e1]; done)) | (refine wp_c (t := true) ?_ (fun _ => ?_) (fun hh => nomatch hh); focus (simp [e1]; done)) | (refine wp_c (t := false) ?_ (fun hh => nomatch hh) (fun _ => ?_); focus (simp [e1]; done)) | refine wp_bs ?_ | refine wp_b ?_ | refine wp_sr ?_ | refine wp_sx ?_ | refine wp_ret' ?_ | refine wp_skip' ?_ | refine wp_exit' ?_)
  refine wp_rega (by simp [h0, hr0, show t.length ≤ 274877906944 by omega]; with_reducible rfl) (by simp; with_reducible rfl) ?_ ?_
  · intro p hp
    simp only [List.mem_cons, List.not_mem_nil, or_false] at hp
    rcases hp with rfl | rfl | rfl | rfl | rfl
    · exact ⟨_, by simp [h0, hr0, show t.length ≤ 274877906944 by omega]; with_reducible rfl, by simp⟩
    · exact ⟨_, by simp [h0, hr0, show t.length ≤ 274877906944 by omega]; with_reducible rfl, by simp⟩
    · exact ⟨_, by simp [h0, hr0, show t.length ≤ 274877906944 by omega]; with_reducible rfl, by simp⟩
    · exact ⟨_, by simp [h0, hr0, show t.length ≤ 274877906944 by omega]; with_reducible rfl, by simp⟩
    · exact ⟨_, by simp [h0, hr0, show t.length ≤ 274877906944 by omega]; with_reducible rfl, by simp⟩
  repeat (first | refine wp_as ?_ | refine wp_ss ?_ | refine wp_rs (by simp; with_reducible rfl) (by simp; with_reducible rfl) ?_ | refine wp_reg (by simp; with_reducible rfl) (by simp; with_reducible rfl) ?_ | (refine wp_ct (t := true) ?_ (fun _ => ?_) (fun hh => nomatch hh); focus (simp; done)) | (refine wp_ct (t := false) ?_ (fun hh => nomatch hh) (fun _ => ?_); focus (simp; done)) | (refine wp_c (t := true) ?_ (fun _ => ?_) (fun hh => nomatch hh); focus (simp; done)) | (refine wp_c (t := false) ?_ (fun hh => nomatch hh) (fun _ => ?_); focus (simp; done)) | refine wp_bs ?_ | refine wp_b ?_ | refine wp_sr ?_ | refine wp_sx ?_ | refine wp_ret' ?_ | refine wp_skip' ?_ | refine wp_exit' ?_)
  refine wp_imp (mg_out t.length t c rfl hl.2 (fun r hr => ⟨(ht.2.1 r hr).1, (ht.2.1 r hr).2⟩) t.length 0 (List.replicate t.length 0) 0 (by omega) (by simp) (by intro x hx; have := List.eq_of_mem_replicate hx; omega) (by omega)) ?_
  rintro ex st ⟨rfl, B', h1, h2, rfl⟩
  simp only [if_true]
  repeat (first | refine wp_as ?_ | refine wp_ss ?_ | refine wp_rs (by simp; with_reducible rfl) (by simp; with_reducible rfl) ?_ | refine wp_reg (by simp; with_reducible rfl) (by simp; with_reducible rfl) ?_ | (refine wp_ct (t := true) ?_ (fun _ => ?_) (fun hh => nomatch hh); focus (simp; done)) | (refine wp_ct (t := false) ?_ (fun hh => nomatch hh) (fun _ => ?_); focus (simp; done)) | (refine wp_c (t := true) ?_ (fun _ => ?_) (fun hh => nomatch hh); focus (simp; done)) | (refine wp_c (t := false) ?_ (fun hh => nomatch hh) (fun _ => ?_); focus (simp; done)) | refine wp_bs ?_ | refine wp_b ?_ | refine wp_sr ?_ | refine wp_sx ?_ | refine wp_ret' ?_ | refine wp_skip' ?_ | refine wp_exit' ?_)
  refine ⟨.inr rfl, _, ⟨B', rfl⟩, by simp [if_impl_MarginsOf]⟩

theorem ev_ScoresOf (t : List (List Int)) (c : Bool) (ht : Tour t) : Ev tb l_impl_ScoresOf [] [TL t c] [] ⟨O (scores t), [], [], []⟩ := by
  have hl := ht.1
  have e1 := ev_lim (ev_ValidTournament t c (by omega) (fun r hr => by have := (ht.2.1 r hr).1; omega))
  rw [vT_true.2 ht] at e1
  obtain ⟨B, e2⟩ := ev_MarginsOf t c ht
  refine call_of_wp tb_impl_ScoresOf rfl ?_
  repeat (first | refine wp_as ?_ | refine wp_ss ?_ | refine wp_rs (by simp [e1, e2]; with_reducible rfl) (by simp; with_reducible rfl) ?_ | refine wp_reg (by simp [e1, e2]; with_reducible rfl) (by simp; with_reducible rfl) ?_ | (refine wp_ct (t := true) ?_ (fun _ => ?_) (fun hh => nomatch hh); focus (simp [e1, e2]; done)) | (refine wp_ct (t := false) ?_ (fun hh => nomatch hh) (fun _ => ?_); focus (simp [e1, e2]; done)) | (refine wp_c (t := true) ?_ (fun _ => ?_) (fun hh => nomatch hh); focus (simp [e1, e2]; done)) | (refine wp_c (t := false) ?_ (fun hh => nomatch hh) (fun _ => ?_); focus (simp [e1, e2]; done)) | refine wp_bs ?_ | refine wp_b ?_ | refine wp_sr ?_ | refine wp_sx ?_ | refine wp_ret' ?_ | refine wp_skip' ?_ | refine wp_exit' ?_)
  simp [if_impl_ScoresOf]

end Go.Idl

namespace Go.Idl

open Go

theorem over_len (s : List Int) : (over s).length = s.length := by simp [over, mapR]

/-- The first sum that is tight is the last. -/
def lastOnly (s : List Int) : Bool := decide (idx (fun x => decide (0 = x)) 0 (over s) = (s.length : Int) - 1)

theorem scores_len (t : List (List Int)) : (scores t).length = t.length := by simp [scores, mapR]

theorem ev_IsStrong (t : List (List Int)) (c : Bool) (ht : Tour t) (hf : Few (scores t)) :
    Ev tb l_impl_IsStrong [] [TL t c] [] ⟨Bo (lastOnly (scores t)), [], [], []⟩ := by
  have hl := ht.1
  have e1 := ev_lim (ev_ValidTournament t c (by omega) (fun r hr => by have := (ht.2.1 r hr).1; omega))
  rw [vT_true.2 ht] at e1
  have e2 := ev_lim (ev_ScoresOf t c ht)
  have e3 := ev_lim (ev_over (scores t) false hf)
  have hsl := scores_len t
  have hol := over_len (scores t)
  have e4 := ev_lim (ev_Index (over (scores t)) false 0 (by omega))
  have w1 : IntKind.i64.wrap ((t.length : Int) - 1) = (t.length : Int) - 1 := wrap64 (by omega) (by omega)
  unfold lastOnly
  rw [hsl]
  generalize idx (fun x => decide (0 = x)) 0 (over (scores t)) = v at *
  rw [hsl] at hol
  generalize over (scores t) = o at *
  have hto : o.take t.length = o := List.take_of_length_le (by omega)
  refine call_of_wp tb_impl_IsStrong rfl ?_
  repeat (first | refine wp_as ?_ | refine wp_ss ?_ | refine wp_rs (by simp [e1, e2, e3, e4, w1, hol, hto]; with_reducible rfl) (by simp; with_reducible rfl) ?_ | refine wp_reg (by simp [e1, e2, e3, e4, w1, hol, hto]; with_reducible rfl) (by simp; with_reducible rfl) ?_ | (refine wp_ct (t := true) ?_ (fun _ => ?_) (fun hh => nomatch hh); focus (simp [e1, e2, e3, e4, w1, hol, hto]; done)) | (refine wp_ct (t := false) ?_ (fun hh => nomatch hh) (fun _ => ?_); focus (simp [e1, e2, e3, e4, w1, hol, hto]; done)) | (refine wp_c (t := true) ?_ (fun _ => ?_) (fun hh => nomatch hh); focus (simp [e1, e2, e3, e4, w1, hol, hto]; done)) | (refine wp_c (t := false) ?_ (fun hh => nomatch hh) (fun _ => ?_); focus (simp [e1, e2, e3, e4, w1, hol, hto]; done)) | refine wp_bs ?_ | refine wp_b ?_ | refine wp_sr ?_ | refine wp_sx ?_ | refine wp_ret' ?_ | refine wp_skip' ?_ | refine wp_exit' ?_)
  simp [if_impl_IsStrong]
  rfl

end Go.Idl

namespace Go.Idl

open Go

/-- A table of numbers. -/
def tabF (w h : Nat) (g : Nat → Nat → Int) : List (List Int) := (List.range w).map fun i => mapR h (g i)

theorem tabl_in (w h : Nat) (F : Lab) (caps : List IV) (M : List Boxes) (g : Nat → Nat → Int) (i : Nat) (hi : i < w) (hh : h ≤ 1000) (hw : w ≤ 1000)
    (hF : ∀ k, k < h → Ev tb F [] (I i :: I k :: caps) (M ++ [[]]) ⟨I (g i k), [], M ++ [[]], []⟩) :
    ∀ (m k : Nat) (C : List (List IV)), k + m = h → C.length = w → (∀ hc : i < C.length, C[i] = [O (mapR k (g i) ++ List.replicate (h - k) 0)]) →
    wp tb (.loop ic_impl_table_l11) { T := [(1, I h), (2, .fn F caps), (7, .own 1 C), (8, I i), (13, I w), (14, I i), (26, I h), (27, I k)], loc := [], M := M }
      (fun ex st => ex = .exit 2 ∧ st = { T := [(1, I h), (2, .fn F caps), (7, .own 1 (C.set i [O (mapR h (g i))])), (8, I i), (13, I w), (14, I i), (26, I h), (27, I h), (28, Bo false)], loc := [], M := M }) := by
  intro m
  induction m with
  | zero =>
    intro k C hk hC hCi
    have h3 : k = h := hk
    subst h3
    have hi' : i < C.length := by omega
    have hs : C.set i [O (mapR k (g i))] = C := by
      have := hCi hi'
      simp only [Nat.sub_self, List.replicate_zero, List.append_nil] at this
      rw [← this]; simp
    refine wp_loop ?_
    repeat (first | refine wp_as ?_ | refine wp_ss ?_ | refine wp_rs (by simp; with_reducible rfl) (by simp; with_reducible rfl) ?_ | refine wp_reg (by simp; with_reducible rfl) (by simp; with_reducible rfl) ?_ | (refine wp_ct (t := true) ?_ (fun _ => ?_) (fun hh => nomatch hh); focus (simp; done)) | (refine wp_ct (t := false) ?_ (fun hh => nomatch hh) (fun _ => ?_); focus (simp; done)) | (refine wp_c (t := true) ?_ (fun _ => ?_) (fun hh => nomatch hh); focus (simp; done)) | (refine wp_c (t := false) ?_ (fun hh => nomatch hh) (fun _ => ?_); focus (simp; done)) | refine wp_bs ?_ | refine wp_b ?_ | refine wp_sr ?_ | refine wp_sx ?_ | refine wp_ret' ?_ | refine wp_skip' ?_ | refine wp_exit' ?_)
    exact ⟨rfl, by rw [hs]⟩
  | succ m ih =>
    intro k C hk hC hCi
    have hkn : k < h := by omega
    have hiC : i < C.length := by omega
    have hCi := hCi hiC
    have e1 := ev_lim (hF k hkn)
    have w2 : IntKind.i64.wrap ((k : Int) + 1) = ((k + 1 : Nat) : Int) := wrapS (by omega)
    have hln : (mapR k (g i)).length = k := by simp [mapR]
    have hlt : k < k + (h - k) := by omega
    have hs' := mapR_succ_set (g i) hkn
    have hx : i < w := hi
    refine wp_loop ?_
    repeat (first | refine wp_as ?_ | refine wp_ss ?_ | refine wp_rs (by simp [hkn]; with_reducible rfl) (by simp; with_reducible rfl) ?_ | refine wp_reg (by simp [hkn]; with_reducible rfl) (by simp; with_reducible rfl) ?_ | (refine wp_ct (t := true) ?_ (fun _ => ?_) (fun hh => nomatch hh); focus (simp [hkn]; done)) | (refine wp_ct (t := false) ?_ (fun hh => nomatch hh) (fun _ => ?_); focus (simp [hkn]; done)) | (refine wp_c (t := true) ?_ (fun _ => ?_) (fun hh => nomatch hh); focus (simp [hkn]; done)) | (refine wp_c (t := false) ?_ (fun hh => nomatch hh) (fun _ => ?_); focus (simp [hkn]; done)) | refine wp_bs ?_ | refine wp_b ?_ | refine wp_sr ?_ | refine wp_sx ?_ | refine wp_ret' ?_ | refine wp_skip' ?_ | refine wp_exit' ?_)
    refine wp_rega (by simp [hkn, hC, hx, hCi, e1, hln, hlt, hs']; with_reducible rfl) (by simp; with_reducible rfl) ?_ ?_
    · intro p hp
      simp only [List.mem_cons, List.not_mem_nil, or_false] at hp
      subst hp
      exact ⟨_, by simp [hkn, hC, hx, hCi, e1, hln, hlt, hs']; with_reducible rfl, by simp⟩
    repeat (first | refine wp_as ?_ | refine wp_ss ?_ | refine wp_rs (by simp [w2]; with_reducible rfl) (by simp; with_reducible rfl) ?_ | refine wp_reg (by simp [w2]; with_reducible rfl) (by simp; with_reducible rfl) ?_ | (refine wp_ct (t := true) ?_ (fun _ => ?_) (fun hh => nomatch hh); focus (simp [w2]; done)) | (refine wp_ct (t := false) ?_ (fun hh => nomatch hh) (fun _ => ?_); focus (simp [w2]; done)) | (refine wp_c (t := true) ?_ (fun _ => ?_) (fun hh => nomatch hh); focus (simp [w2]; done)) | (refine wp_c (t := false) ?_ (fun hh => nomatch hh) (fun _ => ?_); focus (simp [w2]; done)) | refine wp_bs ?_ | refine wp_b ?_ | refine wp_sr ?_ | refine wp_sx ?_ | refine wp_ret' ?_ | refine wp_skip' ?_ | refine wp_exit' ?_)
    refine wp_imp (ih (k + 1) _ (by omega) (by simp [hC]) (by intro hc; simp)) ?_
    rintro ex st ⟨rfl, rfl⟩
    exact ⟨rfl, by simp⟩

theorem tabl_out (w h : Nat) (F : Lab) (caps : List IV) (M : List Boxes) (g : Nat → Nat → Int) (hh : h ≤ 1000) (hw : w ≤ 1000)
    (hF : ∀ i k, i < w → k < h → Ev tb F [] (I i :: I k :: caps) (M ++ [[]]) ⟨I (g i k), [], M ++ [[]], []⟩) :
    ∀ (m i : Nat) , i + m = w →
    wp tb (.loop ic_impl_table_l13) { T := [(1, I h), (2, .fn F caps), (7, .own 1 (oab (tabF i h g) ++ List.replicate (w - i) [Z])), (13, I w), (14, I i)], loc := [], M := M }
      (fun ex st => ex = .exit 0 ∧ st = { T := [(1, I h), (2, .fn F caps), (7, OT (tabF w h g)), (13, I w), (14, I w), (15, Bo false)], loc := [], M := M }) := by
  intro m
  induction m with
  | zero =>
    intro i hi
    have h3 : i = w := hi
    subst h3
    refine wp_loop ?_
    repeat (first | refine wp_as ?_ | refine wp_ss ?_ | refine wp_rs (by simp; with_reducible rfl) (by simp; with_reducible rfl) ?_ | refine wp_reg (by simp; with_reducible rfl) (by simp; with_reducible rfl) ?_ | (refine wp_ct (t := true) ?_ (fun _ => ?_) (fun hh => nomatch hh); focus (simp; done)) | (refine wp_ct (t := false) ?_ (fun hh => nomatch hh) (fun _ => ?_); focus (simp; done)) | (refine wp_c (t := true) ?_ (fun _ => ?_) (fun hh => nomatch hh); focus (simp; done)) | (refine wp_c (t := false) ?_ (fun hh => nomatch hh) (fun _ => ?_); focus (simp; done)) | refine wp_bs ?_ | refine wp_b ?_ | refine wp_sr ?_ | refine wp_sx ?_ | refine wp_ret' ?_ | refine wp_skip' ?_ | refine wp_exit' ?_)
    exact ⟨rfl, by simp⟩
  | succ m ih =>
    intro i hi
    have hin : i < w := by omega
    have w2 : IntKind.i64.wrap ((i : Int) + 1) = ((i + 1 : Nat) : Int) := wrapS (by omega)
    have hC : (oab (tabF i h g) ++ List.replicate (w - i) [Z]).length = w := by simp [tabF]; omega
    have hst : ∀ r, (oab (tabF i h g) ++ List.replicate (w - i) [Z]).set i [O r] = oab (tabF i h g ++ [r]) ++ List.replicate (w - (i + 1)) [Z] := by
      intro r
      have e : w - i = (w - (i + 1)) + 1 := by omega
      rw [e, List.replicate_succ, List.set_append_right _ _ (by simp [tabF]), ← oab_one]
      simp [tabF]
      simp [oab]
    have hCi : ∀ hc : i < (oab (tabF i h g) ++ List.replicate (w - i) [Z]).length, (oab (tabF i h g) ++ List.replicate (w - i) [Z])[i] = [Z] := by
      intro hc
      rw [List.getElem_append_right (by simp [tabF])]; simp
    have hb : h ≤ 274877906944 := by omega
    have ht : tabF i h g ++ [mapR h (g i)] = tabF (i + 1) h g := by simp [tabF, List.range_succ]
    have hin2 := tabl_in w h F caps M g i hin hh hw (fun k hk => hF i k hin hk) h 0 ((oab (tabF i h g) ++ List.replicate (w - i) [Z]).set i [O (List.replicate h 0)])
      (by omega) (by rw [List.length_set]; exact hC) (by intro hc; simp [mapR])
    simp only [List.set_set] at hin2
    rw [show ((0 : Nat) : Int) = 0 from rfl] at hin2
    generalize (oab (tabF i h g) ++ List.replicate (w - i) [Z]) = C at *
    refine wp_loop ?_
    have hiC : i < C.length := by omega
    have hCi := hCi hiC
    repeat (first | refine wp_as ?_ | refine wp_ss ?_ | refine wp_rs (by simp [hin, hC, hb, hCi]; with_reducible rfl) (by simp; with_reducible rfl) ?_ | refine wp_reg (by simp [hin, hC, hb, hCi]; with_reducible rfl) (by simp; with_reducible rfl) ?_ | (refine wp_ct (t := true) ?_ (fun _ => ?_) (fun hh => nomatch hh); focus (simp [hin, hC, hb, hCi]; done)) | (refine wp_ct (t := false) ?_ (fun hh => nomatch hh) (fun _ => ?_); focus (simp [hin, hC, hb, hCi]; done)) | (refine wp_c (t := true) ?_ (fun _ => ?_) (fun hh => nomatch hh); focus (simp [hin, hC, hb, hCi]; done)) | (refine wp_c (t := false) ?_ (fun hh => nomatch hh) (fun _ => ?_); focus (simp [hin, hC, hb, hCi]; done)) | refine wp_bs ?_ | refine wp_b ?_ | refine wp_sr ?_ | refine wp_sx ?_ | refine wp_ret' ?_ | refine wp_skip' ?_ | refine wp_exit' ?_)
    refine wp_imp hin2 ?_
    rintro ex st ⟨rfl, rfl⟩
    simp only [if_true]
    rw [hst, ht]
    repeat (first | refine wp_as ?_ | refine wp_ss ?_ | refine wp_rs (by simp [w2]; with_reducible rfl) (by simp; with_reducible rfl) ?_ | refine wp_reg (by simp [w2]; with_reducible rfl) (by simp; with_reducible rfl) ?_ | (refine wp_ct (t := true) ?_ (fun _ => ?_) (fun hh => nomatch hh); focus (simp [w2]; done)) | (refine wp_ct (t := false) ?_ (fun hh => nomatch hh) (fun _ => ?_); focus (simp [w2]; done)) | (refine wp_c (t := true) ?_ (fun _ => ?_) (fun hh => nomatch hh); focus (simp [w2]; done)) | (refine wp_c (t := false) ?_ (fun hh => nomatch hh) (fun _ => ?_); focus (simp [w2]; done)) | refine wp_bs ?_ | refine wp_b ?_ | refine wp_sr ?_ | refine wp_sx ?_ | refine wp_ret' ?_ | refine wp_skip' ?_ | refine wp_exit' ?_)
    exact ih (i + 1) (by omega)

theorem ev_table (w h : Nat) (F : Lab) (caps : List IV) (M : List Boxes) (g : Nat → Nat → Int) (hh : h ≤ 1000) (hw : w ≤ 1000)
    (hF : ∀ i k, i < w → k < h → Ev tb F [] (I i :: I k :: caps) (M ++ [[]]) ⟨I (g i k), [], M ++ [[]], []⟩) :
    Ev tb l_impl_table [] [I w, I h, .fn F caps] M ⟨OT (tabF w h g), [], M, []⟩ := by
  have hb : w ≤ 274877906944 := by omega
  refine call_of_wp tb_impl_table rfl ?_
  repeat (first | refine wp_as ?_ | refine wp_ss ?_ | refine wp_rs (by simp [hb]; with_reducible rfl) (by simp; with_reducible rfl) ?_ | refine wp_reg (by simp [hb]; with_reducible rfl) (by simp; with_reducible rfl) ?_ | (refine wp_ct (t := true) ?_ (fun _ => ?_) (fun hh => nomatch hh); focus (simp [hb]; done)) | (refine wp_ct (t := false) ?_ (fun hh => nomatch hh) (fun _ => ?_); focus (simp [hb]; done)) | (refine wp_c (t := true) ?_ (fun _ => ?_) (fun hh => nomatch hh); focus (simp [hb]; done)) | (refine wp_c (t := false) ?_ (fun hh => nomatch hh) (fun _ => ?_); focus (simp [hb]; done)) | refine wp_bs ?_ | refine wp_b ?_ | refine wp_sr ?_ | refine wp_sx ?_ | refine wp_ret' ?_ | refine wp_skip' ?_ | refine wp_exit' ?_)
  have := tabl_out w h F caps M g hh hw hF w 0 (by omega)
  simp [tabF] at this
  refine wp_imp this ?_
  rintro ex st ⟨rfl, rfl⟩
  simp only [if_true]
  repeat (first | refine wp_as ?_ | refine wp_ss ?_ | refine wp_rs (by simp; with_reducible rfl) (by simp; with_reducible rfl) ?_ | refine wp_reg (by simp; with_reducible rfl) (by simp; with_reducible rfl) ?_ | (refine wp_ct (t := true) ?_ (fun _ => ?_) (fun hh => nomatch hh); focus (simp; done)) | (refine wp_ct (t := false) ?_ (fun hh => nomatch hh) (fun _ => ?_); focus (simp; done)) | (refine wp_c (t := true) ?_ (fun _ => ?_) (fun hh => nomatch hh); focus (simp; done)) | (refine wp_c (t := false) ?_ (fun hh => nomatch hh) (fun _ => ?_); focus (simp; done)) | refine wp_bs ?_ | refine wp_b ?_ | refine wp_sr ?_ | refine wp_sx ?_ | refine wp_ret' ?_ | refine wp_skip' ?_ | refine wp_exit' ?_)
  simp [if_impl_table, tabF]
  rw [List.take_of_length_le (by simp)]

end Go.Idl

namespace Go.Idl

open Go

theorem code_ok {code : List Int} (h : ∀ x ∈ code, 0 ≤ x ∧ x ≤ 255) : CodeOk (code.take 2000) := ⟨by simp; omega, fun x hx => h x (List.mem_of_mem_take hx)⟩

end Go.Idl

namespace Go.Idl

open Go

/-- A square table of zeros and ones. -/
def TT (n : Nat) (t : List (List Int)) : Prop := t.length = n ∧ ∀ r ∈ t, r.length = n ∧ ∀ x ∈ r, 0 ≤ x ∧ x ≤ 1

theorem TT.set {n : Nat} {t : List (List Int)} (h : TT n t) {a b : Nat} {v : Int} (ha : a < t.length) (hv : 0 ≤ v ∧ v ≤ 1) : TT n (t.set a (t[a].set b v)) := by
  refine ⟨by simpa using h.1, fun r hr => ?_⟩
  have h1 := h.2 _ (List.getElem_mem ha)
  rcases List.mem_or_eq_of_mem_set hr with hr | rfl
  · exact h.2 r hr
  · refine ⟨by simpa using h1.1, fun x hx => ?_⟩
    rcases List.mem_or_eq_of_mem_set hx with hx | rfl
    · exact h1.2 x hx
    · exact hv

theorem at_in (code : List Int) (c : Bool) (hc : CodeOk code) (n : Nat) (hn : n ≤ 5) (bs : Boxes) (Ms : List Boxes) (a : Nat) (ha : a < n) :
    ∀ (m b cnt : Nat) (t : List (List Int)), b + m = n → cnt + m ≤ 90000 → TT n t →
    wp tb (.loop ic_spec_aTournament_l16) { T := [(0, .bptr 0 0 0), (3, I n), (4, OT t), (6, I a), (7, I b)], loc := [], M := (R code c cnt :: bs) :: Ms }
      (fun ex st => ex = .exit 4 ∧ ∃ (t' : List (List Int)) (k : Nat), TT n t' ∧ k ≤ cnt + m ∧ st = { T := [(0, .bptr 0 0 0), (3, I n), (4, OT t'), (6, I a), (7, I n), (31, Bo false)], loc := [], M := (R code c k :: bs) :: Ms }) := by
  intro m
  induction m with
  | zero =>
    intro b cnt t hb hcn ht
    have h3 : b = n := hb
    subst h3
    refine wp_loop ?_
    repeat (first | refine wp_as ?_ | refine wp_ss ?_ | refine wp_rs (by simp; with_reducible rfl) (by simp; with_reducible rfl) ?_ | refine wp_reg (by simp; with_reducible rfl) (by simp; with_reducible rfl) ?_ | (refine wp_ct (t := true) ?_ (fun _ => ?_) (fun hh => nomatch hh); focus (simp; done)) | (refine wp_ct (t := false) ?_ (fun hh => nomatch hh) (fun _ => ?_); focus (simp; done)) | (refine wp_c (t := true) ?_ (fun _ => ?_) (fun hh => nomatch hh); focus (simp; done)) | (refine wp_c (t := false) ?_ (fun hh => nomatch hh) (fun _ => ?_); focus (simp; done)) | refine wp_bs ?_ | refine wp_b ?_ | refine wp_sr ?_ | refine wp_sx ?_ | refine wp_ret' ?_ | refine wp_skip' ?_ | refine wp_exit' ?_)
    exact ⟨rfl, t, cnt, ht, by omega, rfl⟩
  | succ m ih =>
    intro b cnt t hb hcn ht
    have hbn : b < n := by omega
    have w2 : IntKind.i64.wrap ((b : Int) + 1) = ((b + 1 : Nat) : Int) := wrapS (by omega)
    have hta : a < t.length := by rw [ht.1]; exact ha
    have htb : b < t.length := by rw [ht.1]; exact hbn
    have hra : b < t[a].length := by have := (ht.2 _ (List.getElem_mem hta)).1; omega
    have hrb : a < t[b].length := by have := (ht.2 _ (List.getElem_mem htb)).1; omega
    obtain ⟨v, k, hv, hk, e1⟩ := pick' code c hc cnt (by omega) 2 (by omega) bs (Ms ++ [[]])
    by_cases h0 : v = 0
    · subst h0
      rw [show ((0 : Nat) : Int) = 0 from rfl] at e1
      refine wp_loop ?_
      repeat (first | refine wp_as ?_ | refine wp_ss ?_ | refine wp_rs (by simp [hbn, e1, hta, hra, w2]; with_reducible rfl) (by simp; with_reducible rfl) ?_ | refine wp_reg (by simp [hbn, e1, hta, hra, w2]; with_reducible rfl) (by simp; with_reducible rfl) ?_ | (refine wp_ct (t := true) ?_ (fun _ => ?_) (fun hh => nomatch hh); focus (simp [hbn, e1, hta, hra, w2]; done)) | (refine wp_ct (t := false) ?_ (fun hh => nomatch hh) (fun _ => ?_); focus (simp [hbn, e1, hta, hra, w2]; done)) | (refine wp_c (t := true) ?_ (fun _ => ?_) (fun hh => nomatch hh); focus (simp [hbn, e1, hta, hra, w2]; done)) | (refine wp_c (t := false) ?_ (fun hh => nomatch hh) (fun _ => ?_); focus (simp [hbn, e1, hta, hra, w2]; done)) | refine wp_bs ?_ | refine wp_b ?_ | refine wp_sr ?_ | refine wp_sx ?_ | refine wp_ret' ?_ | refine wp_skip' ?_ | refine wp_exit' ?_)
      refine wp_imp (ih (b + 1) k _ (by omega) (by omega) (ht.set (b := b) (v := 1) hta (by omega))) ?_
      rintro ex st ⟨rfl, t', k', h1, h2, rfl⟩
      exact ⟨rfl, t', k', h1, by omega, rfl⟩
    · refine wp_loop ?_
      repeat (first | refine wp_as ?_ | refine wp_ss ?_ | refine wp_rs (by simp [hbn, e1, htb, hrb, w2, h0]; with_reducible rfl) (by simp; with_reducible rfl) ?_ | refine wp_reg (by simp [hbn, e1, htb, hrb, w2, h0]; with_reducible rfl) (by simp; with_reducible rfl) ?_ | (refine wp_ct (t := true) ?_ (fun _ => ?_) (fun hh => nomatch hh); focus (simp [hbn, e1, htb, hrb, w2, h0]; done)) | (refine wp_ct (t := false) ?_ (fun hh => nomatch hh) (fun _ => ?_); focus (simp [hbn, e1, htb, hrb, w2, h0]; done)) | (refine wp_c (t := true) ?_ (fun _ => ?_) (fun hh => nomatch hh); focus (simp [hbn, e1, htb, hrb, w2, h0]; done)) | (refine wp_c (t := false) ?_ (fun hh => nomatch hh) (fun _ => ?_); focus (simp [hbn, e1, htb, hrb, w2, h0]; done)) | refine wp_bs ?_ | refine wp_b ?_ | refine wp_sr ?_ | refine wp_sx ?_ | refine wp_ret' ?_ | refine wp_skip' ?_ | refine wp_exit' ?_)
      refine wp_imp (ih (b + 1) k _ (by omega) (by omega) (ht.set (b := a) (v := 1) htb (by omega))) ?_
      rintro ex st ⟨rfl, t', k', h1, h2, rfl⟩
      exact ⟨rfl, t', k', h1, by omega, rfl⟩

theorem at_out (code : List Int) (c : Bool) (hc : CodeOk code) (n : Nat) (hn : n ≤ 5) (bs : Boxes) (Ms : List Boxes) :
    ∀ (m a cnt : Nat) (t : List (List Int)), a + m = n → cnt + 5 * m ≤ 90000 → TT n t →
    wp tb (.loop ic_spec_aTournament_l18) { T := [(0, .bptr 0 0 0), (3, I n), (4, OT t), (6, I a)], loc := [], M := (R code c cnt :: bs) :: Ms }
      (fun ex st => ex = .exit 2 ∧ ∃ (t' : List (List Int)) (k : Nat), TT n t' ∧ k ≤ cnt + 5 * m ∧ st = { T := [(0, .bptr 0 0 0), (3, I n), (4, OT t'), (6, I n), (24, Bo false)], loc := [], M := (R code c k :: bs) :: Ms }) := by
  intro m
  induction m with
  | zero =>
    intro a cnt t ha hcn ht
    have h3 : a = n := ha
    subst h3
    refine wp_loop ?_
    repeat (first | refine wp_as ?_ | refine wp_ss ?_ | refine wp_rs (by simp; with_reducible rfl) (by simp; with_reducible rfl) ?_ | refine wp_reg (by simp; with_reducible rfl) (by simp; with_reducible rfl) ?_ | (refine wp_ct (t := true) ?_ (fun _ => ?_) (fun hh => nomatch hh); focus (simp; done)) | (refine wp_ct (t := false) ?_ (fun hh => nomatch hh) (fun _ => ?_); focus (simp; done)) | (refine wp_c (t := true) ?_ (fun _ => ?_) (fun hh => nomatch hh); focus (simp; done)) | (refine wp_c (t := false) ?_ (fun hh => nomatch hh) (fun _ => ?_); focus (simp; done)) | refine wp_bs ?_ | refine wp_b ?_ | refine wp_sr ?_ | refine wp_sx ?_ | refine wp_ret' ?_ | refine wp_skip' ?_ | refine wp_exit' ?_)
    exact ⟨rfl, t, cnt, ht, by omega, rfl⟩
  | succ m ih =>
    intro a cnt t ha hcn ht
    have han : a < n := by omega
    have w2 : IntKind.i64.wrap ((a : Int) + 1) = ((a + 1 : Nat) : Int) := wrapS (by omega)
    refine wp_loop ?_
    repeat (first | refine wp_as ?_ | refine wp_ss ?_ | refine wp_rs (by simp [han, w2]; with_reducible rfl) (by simp; with_reducible rfl) ?_ | refine wp_reg (by simp [han, w2]; with_reducible rfl) (by simp; with_reducible rfl) ?_ | (refine wp_ct (t := true) ?_ (fun _ => ?_) (fun hh => nomatch hh); focus (simp [han, w2]; done)) | (refine wp_ct (t := false) ?_ (fun hh => nomatch hh) (fun _ => ?_); focus (simp [han, w2]; done)) | (refine wp_c (t := true) ?_ (fun _ => ?_) (fun hh => nomatch hh); focus (simp [han, w2]; done)) | (refine wp_c (t := false) ?_ (fun hh => nomatch hh) (fun _ => ?_); focus (simp [han, w2]; done)) | refine wp_bs ?_ | refine wp_b ?_ | refine wp_sr ?_ | refine wp_sx ?_ | refine wp_ret' ?_ | refine wp_skip' ?_ | refine wp_exit' ?_)
    refine wp_imp (at_in code c hc n hn bs Ms a han (n - (a + 1)) (a + 1) cnt t (by omega) (by omega) ht) ?_
    rintro ex st ⟨rfl, t', k', h1, h2, rfl⟩
    simp only [if_true]
    repeat (first | refine wp_as ?_ | refine wp_ss ?_ | refine wp_rs (by simp [w2]; with_reducible rfl) (by simp; with_reducible rfl) ?_ | refine wp_reg (by simp [w2]; with_reducible rfl) (by simp; with_reducible rfl) ?_ | (refine wp_ct (t := true) ?_ (fun _ => ?_) (fun hh => nomatch hh); focus (simp [w2]; done)) | (refine wp_ct (t := false) ?_ (fun hh => nomatch hh) (fun _ => ?_); focus (simp [w2]; done)) | (refine wp_c (t := true) ?_ (fun _ => ?_) (fun hh => nomatch hh); focus (simp [w2]; done)) | (refine wp_c (t := false) ?_ (fun hh => nomatch hh) (fun _ => ?_); focus (simp [w2]; done)) | refine wp_bs ?_ | refine wp_b ?_ | refine wp_sr ?_ | refine wp_sx ?_ | refine wp_ret' ?_ | refine wp_skip' ?_ | refine wp_exit' ?_)
    refine wp_imp (ih (a + 1) k' t' (by omega) (by omega) h1) ?_
    rintro ex st ⟨rfl, t'', k'', h3, h4, rfl⟩
    exact ⟨rfl, t'', k'', h3, by omega, rfl⟩

theorem ev_aTournament (code : List Int) (c : Bool) (hc : CodeOk code) (cnt : Nat) (hn : cnt ≤ 80000) (bs : Boxes) (Ms : List Boxes) :
    ∃ (n : Nat) (t : List (List Int)) (k : Nat), 1 ≤ n ∧ n ≤ 5 ∧ TT n t ∧ k ≤ cnt + 30 ∧
      limF tb l_spec_aTournament [] [.bptr 0 0 0] ((R code c cnt :: bs) :: Ms) = some ⟨OT t, [], (R code c k :: bs) :: Ms, []⟩ := by
  suffices h : ∃ r, (∃ (n : Nat) (t : List (List Int)) (k : Nat), 1 ≤ n ∧ n ≤ 5 ∧ TT n t ∧ k ≤ cnt + 30 ∧ r = ⟨OT t, [], (R code c k :: bs) :: Ms, []⟩) ∧ Ev tb l_spec_aTournament [] [.bptr 0 0 0] ((R code c cnt :: bs) :: Ms) r by
    obtain ⟨r, ⟨n, t, k, h1, h2, h3, h4, rfl⟩, h⟩ := h
    exact ⟨n, t, k, h1, h2, h3, h4, ev_lim h⟩
  refine call_ex tb_spec_aTournament rfl ?_
  obtain ⟨x, k1, hx, hk1, e1⟩ := one2 code c hc cnt (by omega) [4, 3, 5, 2, 1] (by simp) bs (Ms ++ [[]])
  obtain ⟨n, rfl, hn1, hn5⟩ : ∃ n : Nat, x = (n : Int) ∧ 1 ≤ n ∧ n ≤ 5 := by
    simp at hx
    exact ⟨x.toNat, by omega, by omega, by omega⟩
  have loop : ∀ (m i : Nat), i + m = n → wp tb (.loop ic_spec_aTournament_l7) { T := [(0, .bptr 0 0 0), (3, I n), (4, OT (List.replicate i (List.replicate n 0))), (5, I i)], loc := [], M := (R code c k1 :: bs) :: Ms }
      (fun ex st => ex = .exit 0 ∧ st = { T := [(0, .bptr 0 0 0), (3, I n), (4, OT (List.replicate n (List.replicate n 0))), (5, I n), (14, Bo false)], loc := [], M := (R code c k1 :: bs) :: Ms }) := by
    intro m
    induction m with
    | zero =>
      intro i hi
      have h3 : i = n := hi
      subst h3
      refine wp_loop ?_
      repeat (first | refine wp_as ?_ | refine wp_ss ?_ | refine wp_rs (by simp; with_reducible rfl) (by simp; with_reducible rfl) ?_ | refine wp_reg (by simp; with_reducible rfl) (by simp; with_reducible rfl) ?_ | (refine wp_ct (t := true) ?_ (fun _ => ?_) (fun hh => nomatch hh); focus (simp; done)) | (refine wp_ct (t := false) ?_ (fun hh => nomatch hh) (fun _ => ?_); focus (simp; done)) | (refine wp_c (t := true) ?_ (fun _ => ?_) (fun hh => nomatch hh); focus (simp; done)) | (refine wp_c (t := false) ?_ (fun hh => nomatch hh) (fun _ => ?_); focus (simp; done)) | refine wp_bs ?_ | refine wp_b ?_ | refine wp_sr ?_ | refine wp_sx ?_ | refine wp_ret' ?_ | refine wp_skip' ?_ | refine wp_exit' ?_)
      exact ⟨rfl, rfl⟩
    | succ m ih =>
      intro i hi
      have hin : i < n := by omega
      have w2 : IntKind.i64.wrap ((i : Int) + 1) = ((i + 1 : Nat) : Int) := wrapS (by omega)
      have hr : List.replicate i (List.replicate n (0 : Int)) ++ [List.replicate n 0] = List.replicate (i + 1) (List.replicate n 0) := by
        rw [List.replicate_succ']
      refine wp_loop ?_
      repeat (first | refine wp_as ?_ | refine wp_ss ?_ | refine wp_rs (by simp [hin, w2, show n ≤ 274877906944 by omega, hr, show i ≤ 274877906943 by omega]; with_reducible rfl) (by simp; with_reducible rfl) ?_ | refine wp_reg (by simp [hin, w2, show n ≤ 274877906944 by omega, hr, show i ≤ 274877906943 by omega]; with_reducible rfl) (by simp; with_reducible rfl) ?_ | (refine wp_ct (t := true) ?_ (fun _ => ?_) (fun hh => nomatch hh); focus (simp [hin, w2, show n ≤ 274877906944 by omega, hr, show i ≤ 274877906943 by omega]; done)) | (refine wp_ct (t := false) ?_ (fun hh => nomatch hh) (fun _ => ?_); focus (simp [hin, w2, show n ≤ 274877906944 by omega, hr, show i ≤ 274877906943 by omega]; done)) | (refine wp_c (t := true) ?_ (fun _ => ?_) (fun hh => nomatch hh); focus (simp [hin, w2, show n ≤ 274877906944 by omega, hr, show i ≤ 274877906943 by omega]; done)) | (refine wp_c (t := false) ?_ (fun hh => nomatch hh) (fun _ => ?_); focus (simp [hin, w2, show n ≤ 274877906944 by omega, hr, show i ≤ 274877906943 by omega]; done)) | refine wp_bs ?_ | refine wp_b ?_ | refine wp_sr ?_ | refine wp_sx ?_ | refine wp_ret' ?_ | refine wp_skip' ?_ | refine wp_exit' ?_)
      exact ih (i + 1) (by omega)
  repeat (first | refine wp_as ?_ | refine wp_ss ?_ | refine wp_rs (by simp [e1]; with_reducible rfl) (by simp; with_reducible rfl) ?_ | refine wp_reg (by simp [e1]; with_reducible rfl) (by simp; with_reducible rfl) ?_ | (refine wp_ct (t := true) ?_ (fun _ => ?_) (fun hh => nomatch hh); focus (simp [e1]; done)) | (refine wp_ct (t := false) ?_ (fun hh => nomatch hh) (fun _ => ?_); focus (simp [e1]; done)) | (refine wp_c (t := true) ?_ (fun _ => ?_) (fun hh => nomatch hh); focus (simp [e1]; done)) | (refine wp_c (t := false) ?_ (fun hh => nomatch hh) (fun _ => ?_); focus (simp [e1]; done)) | refine wp_bs ?_ | refine wp_b ?_ | refine wp_sr ?_ | refine wp_sx ?_ | refine wp_ret' ?_ | refine wp_skip' ?_ | refine wp_exit' ?_)
  have h := loop n 0 (by omega)
  simp at h
  refine wp_imp h ?_
  rintro ex st ⟨rfl, rfl⟩
  simp only [if_true]
  repeat (first | refine wp_as ?_ | refine wp_ss ?_ | refine wp_rs (by simp; with_reducible rfl) (by simp; with_reducible rfl) ?_ | refine wp_reg (by simp; with_reducible rfl) (by simp; with_reducible rfl) ?_ | (refine wp_ct (t := true) ?_ (fun _ => ?_) (fun hh => nomatch hh); focus (simp; done)) | (refine wp_ct (t := false) ?_ (fun hh => nomatch hh) (fun _ => ?_); focus (simp; done)) | (refine wp_c (t := true) ?_ (fun _ => ?_) (fun hh => nomatch hh); focus (simp; done)) | (refine wp_c (t := false) ?_ (fun hh => nomatch hh) (fun _ => ?_); focus (simp; done)) | refine wp_bs ?_ | refine wp_b ?_ | refine wp_sr ?_ | refine wp_sx ?_ | refine wp_ret' ?_ | refine wp_skip' ?_ | refine wp_exit' ?_)
  have hT : TT n (List.replicate n (List.replicate n 0)) := ⟨by simp, fun r hr => by
    have := List.eq_of_mem_replicate hr
    subst this
    exact ⟨by simp, fun x hx => by have := List.eq_of_mem_replicate hx; omega⟩⟩
  refine wp_imp (at_out code c hc n hn5 bs Ms n 0 k1 _ (by omega) (by omega) hT) ?_
  rintro ex st ⟨rfl, t', k', h1, h2, rfl⟩
  simp only [if_true]
  repeat (first | refine wp_as ?_ | refine wp_ss ?_ | refine wp_rs (by simp; with_reducible rfl) (by simp; with_reducible rfl) ?_ | refine wp_reg (by simp; with_reducible rfl) (by simp; with_reducible rfl) ?_ | (refine wp_ct (t := true) ?_ (fun _ => ?_) (fun hh => nomatch hh); focus (simp; done)) | (refine wp_ct (t := false) ?_ (fun hh => nomatch hh) (fun _ => ?_); focus (simp; done)) | (refine wp_c (t := true) ?_ (fun _ => ?_) (fun hh => nomatch hh); focus (simp; done)) | (refine wp_c (t := false) ?_ (fun hh => nomatch hh) (fun _ => ?_); focus (simp; done)) | refine wp_bs ?_ | refine wp_b ?_ | refine wp_sr ?_ | refine wp_sx ?_ | refine wp_ret' ?_ | refine wp_skip' ?_ | refine wp_exit' ?_)
  refine ⟨.inr rfl, _, ⟨n, t', k', hn1, hn5, h1, by omega, rfl⟩, ?_⟩
  simp [if_spec_aTournament]

end Go.Idl

namespace Go.Idl

open Go

/-- A drawn table: small. -/
def TS (t : List (List Int)) : Prop := (1 ≤ t.length ∧ t.length ≤ 5) ∧ ∀ r ∈ t, r.length ≤ 5 ∧ ∀ x ∈ r, 0 ≤ x ∧ x ≤ 1

theorem TS.small {t : List (List Int)} (h : TS t) : Small2 t := ⟨by have := h.1; omega, fun r hr => ⟨by have := (h.2 r hr).1; omega, fun x hx => by have := (h.2 r hr).2 x hx; omega⟩⟩

theorem TT.ts {n : Nat} {t : List (List Int)} (h : TT n t) (h1 : 1 ≤ n) (h5 : n ≤ 5) : TS t := ⟨by have := h.1; omega, fun r hr => ⟨by have := (h.2 r hr).1; omega, (h.2 r hr).2⟩⟩

theorem ev_someTournament (code : List Int) (c : Bool) (hc : CodeOk code) (cnt : Nat) (hn : cnt ≤ 80000) (bs : Boxes) (Ms : List Boxes) :
    ∃ (t : List (List Int)) (k : Nat), TS t ∧ k ≤ cnt + 40 ∧
      limF tb l_spec_someTournament [] [.bptr 0 0 0] ((R code c cnt :: bs) :: Ms) = some ⟨OT t, [], (R code c k :: bs) :: Ms, []⟩ := by
  suffices h : ∃ r, (∃ (t : List (List Int)) (k : Nat), TS t ∧ k ≤ cnt + 40 ∧ r = ⟨OT t, [], (R code c k :: bs) :: Ms, []⟩) ∧ Ev tb l_spec_someTournament [] [.bptr 0 0 0] ((R code c cnt :: bs) :: Ms) r by
    obtain ⟨r, ⟨t, k, h1, h2, rfl⟩, h⟩ := h
    exact ⟨t, k, h1, h2, ev_lim h⟩
  refine call_ex tb_spec_someTournament rfl ?_
  obtain ⟨n, t, k1, hn1, hn5, ht, hk1, e1⟩ := ev_aTournament code c hc cnt hn bs (Ms ++ [[]])
  by_cases hl : 1 < t.length
  rotate_left
  · have hl' : ¬ (1 < (t.length : Int)) := by omega
    repeat (first | refine wp_as ?_ | refine wp_ss ?_ | refine wp_rs (by simp [e1, hl, hl']; with_reducible rfl) (by simp; with_reducible rfl) ?_ | refine wp_reg (by simp [e1, hl, hl']; with_reducible rfl) (by simp; with_reducible rfl) ?_ | (refine wp_ct (t := true) ?_ (fun _ => ?_) (fun hh => nomatch hh); focus (simp [e1, hl, hl']; done)) | (refine wp_ct (t := false) ?_ (fun hh => nomatch hh) (fun _ => ?_); focus (simp [e1, hl, hl']; done)) | (refine wp_c (t := true) ?_ (fun _ => ?_) (fun hh => nomatch hh); focus (simp [e1, hl, hl']; done)) | (refine wp_c (t := false) ?_ (fun hh => nomatch hh) (fun _ => ?_); focus (simp [e1, hl, hl']; done)) | refine wp_bs ?_ | refine wp_b ?_ | refine wp_sr ?_ | refine wp_sx ?_ | refine wp_ret' ?_ | refine wp_skip' ?_ | refine wp_exit' ?_)
    exact ⟨.inr rfl, _, ⟨t, k1, ht.ts hn1 hn5, by omega, rfl⟩, by simp [if_spec_someTournament]⟩
  have hl' : (1 < (t.length : Int)) := by omega
  have hn0 : 0 < n := by omega
  have hn1' : 1 < n := by have := ht.1; omega
  have h0 : 0 < t.length := by omega
  have hr0 := ht.2 _ (List.getElem_mem h0)
  have h00 : 0 < t[0].length := by omega
  have h01 : 1 < t[0].length := by omega
  obtain ⟨v, k2, hv, hk2, e2⟩ := pick' code c hc k1 (by omega) 24 (by omega) bs (Ms ++ [[]])
  have x01 := hr0.2 _ (List.getElem_mem h01)
  have w1 : IntKind.i64.wrap ((1 : Int) - t[0][1]) = (1 : Int) - t[0][1] := wrap64 (by omega) (by omega)
  by_cases v0 : v = 0
  · subst v0
    rw [show ((0 : Nat) : Int) = 0 from rfl] at e2
    repeat (first | refine wp_as ?_ | refine wp_ss ?_ | refine wp_rs (by simp [e1, hl, hl', h0, h00, h01, e2, w1]; with_reducible rfl) (by simp; with_reducible rfl) ?_ | refine wp_reg (by simp [e1, hl, hl', h0, h00, h01, e2, w1]; with_reducible rfl) (by simp; with_reducible rfl) ?_ | (refine wp_ct (t := true) ?_ (fun _ => ?_) (fun hh => nomatch hh); focus (simp [e1, hl, hl', h0, h00, h01, e2, w1]; done)) | (refine wp_ct (t := false) ?_ (fun hh => nomatch hh) (fun _ => ?_); focus (simp [e1, hl, hl', h0, h00, h01, e2, w1]; done)) | (refine wp_c (t := true) ?_ (fun _ => ?_) (fun hh => nomatch hh); focus (simp [e1, hl, hl', h0, h00, h01, e2, w1]; done)) | (refine wp_c (t := false) ?_ (fun hh => nomatch hh) (fun _ => ?_); focus (simp [e1, hl, hl', h0, h00, h01, e2, w1]; done)) | refine wp_bs ?_ | refine wp_b ?_ | refine wp_sr ?_ | refine wp_sx ?_ | refine wp_ret' ?_ | refine wp_skip' ?_ | refine wp_exit' ?_)
    exact ⟨.inr rfl, _, ⟨_, k2, (ht.set (b := 1) (v := (1 : Int) - t[0][1]) h0 (by omega)).ts hn1 hn5, by omega, rfl⟩, by simp [if_spec_someTournament]; rw [List.take_of_length_le (by simp)]⟩
  by_cases v1 : v = 1
  · subst v1
    rw [show ((1 : Nat) : Int) = 1 from rfl] at e2
    repeat (first | refine wp_as ?_ | refine wp_ss ?_ | refine wp_rs (by simp [e1, hl, hl', h0, h00, h01, e2, w1]; with_reducible rfl) (by simp; with_reducible rfl) ?_ | refine wp_reg (by simp [e1, hl, hl', h0, h00, h01, e2, w1]; with_reducible rfl) (by simp; with_reducible rfl) ?_ | (refine wp_ct (t := true) ?_ (fun _ => ?_) (fun hh => nomatch hh); focus (simp [e1, hl, hl', h0, h00, h01, e2, w1]; done)) | (refine wp_ct (t := false) ?_ (fun hh => nomatch hh) (fun _ => ?_); focus (simp [e1, hl, hl', h0, h00, h01, e2, w1]; done)) | (refine wp_c (t := true) ?_ (fun _ => ?_) (fun hh => nomatch hh); focus (simp [e1, hl, hl', h0, h00, h01, e2, w1]; done)) | (refine wp_c (t := false) ?_ (fun hh => nomatch hh) (fun _ => ?_); focus (simp [e1, hl, hl', h0, h00, h01, e2, w1]; done)) | refine wp_bs ?_ | refine wp_b ?_ | refine wp_sr ?_ | refine wp_sx ?_ | refine wp_ret' ?_ | refine wp_skip' ?_ | refine wp_exit' ?_)
    exact ⟨.inr rfl, _, ⟨_, k2, (ht.set (b := 0) (v := 1) h0 (by omega)).ts hn1 hn5, by omega, rfl⟩, by simp [if_spec_someTournament]; rw [List.take_of_length_le (by simp)]⟩
  by_cases v2 : v = 2
  · subst v2
    rw [show ((2 : Nat) : Int) = 2 from rfl] at e2
    have hset : (oab t).set 1 [IV.own 1 [[I 0]]] = oab (t.set 1 [0]) := by simp [oab, ints, List.map_set]
    have hT : TS (t.set 1 [0]) := ⟨by rw [List.length_set]; exact (ht.ts hn1 hn5).1, fun r hr => by
      rcases List.mem_or_eq_of_mem_set hr with hr | rfl
      · exact (ht.ts hn1 hn5).2 r hr
      · exact ⟨by simp, by intro x hx; simp at hx; omega⟩⟩
    repeat (first | refine wp_as ?_ | refine wp_ss ?_ | refine wp_rs (by simp [e1, hl, hl', h0, h00, h01, e2, w1, hset]; with_reducible rfl) (by simp; with_reducible rfl) ?_ | refine wp_reg (by simp [e1, hl, hl', h0, h00, h01, e2, w1, hset]; with_reducible rfl) (by simp; with_reducible rfl) ?_ | (refine wp_ct (t := true) ?_ (fun _ => ?_) (fun hh => nomatch hh); focus (simp [e1, hl, hl', h0, h00, h01, e2, w1, hset]; done)) | (refine wp_ct (t := false) ?_ (fun hh => nomatch hh) (fun _ => ?_); focus (simp [e1, hl, hl', h0, h00, h01, e2, w1, hset]; done)) | (refine wp_c (t := true) ?_ (fun _ => ?_) (fun hh => nomatch hh); focus (simp [e1, hl, hl', h0, h00, h01, e2, w1, hset]; done)) | (refine wp_c (t := false) ?_ (fun hh => nomatch hh) (fun _ => ?_); focus (simp [e1, hl, hl', h0, h00, h01, e2, w1, hset]; done)) | refine wp_bs ?_ | refine wp_b ?_ | refine wp_sr ?_ | refine wp_sx ?_ | refine wp_ret' ?_ | refine wp_skip' ?_ | refine wp_exit' ?_)
    exact ⟨.inr rfl, _, ⟨_, k2, hT, by omega, rfl⟩, by simp [if_spec_someTournament]; rw [List.take_of_length_le (by simp)]⟩
  have v1' : ¬ (v : Int) = 1 := by omega
  have v2' : ¬ (v : Int) = 2 := by omega
  repeat (first | refine wp_as ?_ | refine wp_ss ?_ | refine wp_rs (by simp [e1, hl, hl', e2, v0, v1', v2']; with_reducible rfl) (by simp; with_reducible rfl) ?_ | refine wp_reg (by simp [e1, hl, hl', e2, v0, v1', v2']; with_reducible rfl) (by simp; with_reducible rfl) ?_ | (refine wp_ct (t := true) ?_ (fun _ => ?_) (fun hh => nomatch hh); focus (simp [e1, hl, hl', e2, v0, v1', v2']; done)) | (refine wp_ct (t := false) ?_ (fun hh => nomatch hh) (fun _ => ?_); focus (simp [e1, hl, hl', e2, v0, v1', v2']; done)) | (refine wp_c (t := true) ?_ (fun _ => ?_) (fun hh => nomatch hh); focus (simp [e1, hl, hl', e2, v0, v1', v2']; done)) | (refine wp_c (t := false) ?_ (fun hh => nomatch hh) (fun _ => ?_); focus (simp [e1, hl, hl', e2, v0, v1', v2']; done)) | refine wp_bs ?_ | refine wp_b ?_ | refine wp_sr ?_ | refine wp_sx ?_ | refine wp_ret' ?_ | refine wp_skip' ?_ | refine wp_exit' ?_)
  exact ⟨.inr rfl, _, ⟨t, k2, ht.ts hn1 hn5, by omega, rfl⟩, by simp [if_spec_someTournament]⟩

end Go.Idl

namespace Go.Idl

theorem sum_set : ∀ (l : List Int) (i : Nat) (v : Int) (h : i < l.length), (l.set i v).sum = l.sum - l[i] + v
  | x :: r, 0, v, h => by simp; omega
  | x :: r, i + 1, v, h => by
    have := sum_set r i v (by simpa using h)
    simp [this]; omega

end Go.Idl

namespace Go.Idl

open Go

def sN (l : List Nat) (f : Nat → Int) : Int := (l.map f).sum

theorem sN_perm {l m : List Nat} (h : l.Perm m) (f : Nat → Int) : sN l f = sN m f := perm_sum (h.map f)

theorem sN_cons (x : Nat) (r : List Nat) (f : Nat → Int) : sN (x :: r) f = f x + sN r f := by simp [sN]

theorem scr_sum {t : List (List Int)} (ht : Tour t) {a : Nat} (ha : a < t.length) : scr t a = sN (List.range t.length) (g2 t a) := by
  have hl := (ht.2.1 _ (List.getElem_mem ha)).1
  have : t[a] = (List.range t.length).map (g2 t a) := by
    refine List.ext_getElem (by simp [hl]) fun i h1 h2 => ?_
    simp [g2_eq ha h1]
  rw [sN, ← this]
  simp [scr, List.getD_eq_getElem?_getD, List.getElem?_eq_getElem ha]

theorem g2_01 {t : List (List Int)} (ht : Tour t) {a b : Nat} (ha : a < t.length) (hb : b < t.length) : 0 ≤ g2 t a b ∧ g2 t a b ≤ 1 := by
  have h := ht.2.1 _ (List.getElem_mem ha)
  have hb' : b < t[a].length := by omega
  rw [g2_eq ha hb']
  exact h.2 _ (List.getElem_mem hb')

end Go.Idl

namespace Go.Idl

open Go

theorem scores_map (t : List (List Int)) : scores t = (List.range t.length).map (scr t) := rfl

open Classical in

theorem scores_range {t : List (List Int)} (ht : Tour t) : ∀ x ∈ scores t, 0 ≤ x ∧ x ≤ ((scores t).length : Int) - 1 := by
  intro x hx
  rw [scores_len]
  rw [scores_map] at hx
  obtain ⟨a, ha, rfl⟩ := List.mem_map.1 hx
  have ha := List.mem_range.1 ha
  rw [scr_sum ht ha]
  have haa : g2 t a a = 0 := by have := ht.2.2 a a ha ha; simpa [tAt] using this
  have hp := List.perm_cons_erase (List.mem_range.2 ha)
  rw [sN_perm hp, sN_cons, haa]
  have h1 : ∀ b ∈ (List.range t.length).erase a, 0 ≤ g2 t a b ∧ g2 t a b ≤ 1 := fun b hb => g2_01 ht ha (List.mem_range.1 (List.mem_of_mem_erase hb))
  have h2 := sum01 (((List.range t.length).erase a).map (g2 t a)) (fun x hx => by obtain ⟨b, hb, rfl⟩ := List.mem_map.1 hx; exact h1 b hb)
  rw [List.length_map, List.length_erase_of_mem (List.mem_range.2 ha), List.length_range] at h2
  rw [sN]; omega

theorem scores_few {t : List (List Int)} (ht : Tour t) : Few (scores t) := by
  have h := scores_range ht
  have hl := ht.1
  have h2 := scores_len t
  exact ⟨by omega, fun x hx => by have := h x hx; omega⟩

end Go.Idl

namespace Go.Idl

open Go

@[simp] theorem oab_noLst (t : List (List Int)) : noLstLL (oab t) = true := by
  induction t with
  | nil => rfl
  | cons x xs ih =>
    simp only [oab, List.map_cons, noLstLL, noLstL, noLstV] at *
    rw [ih, ints_noLst]; rfl

theorem Tour.small {t : List (List Int)} (ht : Tour t) : Small2 t :=
  ⟨by have := ht.1; omega, fun r hr => ⟨by have := (ht.2.1 r hr).1; have := ht.1; omega, fun x hx => by have := (ht.2.1 r hr).2 x hx; omega⟩⟩

end Go.Idl

namespace Go.Idl

open Go

theorem ev_copyTable_F1 (t : List (List Int)) (c : Bool) (i k : Nat) (hi : i < t.length) (hk : k < t[i].length) :
    Ev tb l_impl_copyTable_F1 [] [I i, I k, .bptr 0 0 0] [[[TL t c]], []] ⟨I (g2 t i k), [], [[[TL t c]], []], []⟩ := by
  have hg := g2_eq hi hk
  refine call_of_wp tb_impl_copyTable_F1 rfl ?_
  repeat (first | refine wp_as ?_ | refine wp_ss ?_ | refine wp_rs (by simp [hi, hk]; with_reducible rfl) (by simp; with_reducible rfl) ?_ | refine wp_reg (by simp [hi, hk]; with_reducible rfl) (by simp; with_reducible rfl) ?_ | (refine wp_ct (t := true) ?_ (fun _ => ?_) (fun hh => nomatch hh); focus (simp [hi, hk]; done)) | (refine wp_ct (t := false) ?_ (fun hh => nomatch hh) (fun _ => ?_); focus (simp [hi, hk]; done)) | (refine wp_c (t := true) ?_ (fun _ => ?_) (fun hh => nomatch hh); focus (simp [hi, hk]; done)) | (refine wp_c (t := false) ?_ (fun hh => nomatch hh) (fun _ => ?_); focus (simp [hi, hk]; done)) | refine wp_bs ?_ | refine wp_b ?_ | refine wp_sr ?_ | refine wp_sx ?_ | refine wp_ret' ?_ | refine wp_skip' ?_ | refine wp_exit' ?_)
  simp [if_impl_copyTable_F1, hg]

theorem tabF_self {n : Nat} {t : List (List Int)} (h : TT n t) : tabF n n (g2 t) = t := by
  refine List.ext_getElem (by simp [tabF, h.1]) fun i h1 h2 => ?_
  have hr := h.2 _ (List.getElem_mem h2)
  refine List.ext_getElem (by simp [tabF, mapR, hr.1]) fun k h3 h4 => ?_
  simp [tabF, mapR, g2_eq h2 h4]

theorem ev_copyTable (n : Nat) (t : List (List Int)) (c : Bool) (h : TT n t) (h0 : 0 < n) (hn : n ≤ 5) :
    Ev tb l_impl_copyTable [] [TL t c] [] ⟨OT t, [], [], []⟩ := by
  have hl := h.1
  have h0' : 0 < t.length := by omega
  have hr0 := (h.2 _ (List.getElem_mem h0')).1
  have e2 := ev_lim (ev_table n n l_impl_copyTable_F1 [.bptr 0 0 0] [[[TL t c]]] (g2 t) (by omega) (by omega)
    (fun i k hi hk => ev_copyTable_F1 t c i k (by omega) (by have := (h.2 _ (List.getElem_mem (by omega : i < t.length))).1; omega)))
  rw [tabF_self h] at e2
  refine call_of_wp tb_impl_copyTable rfl ?_
  repeat (first | refine wp_as ?_ | refine wp_ss ?_ | refine wp_rs (by simp [e2, h0, h0', hr0, hl]; with_reducible rfl) (by simp; with_reducible rfl) ?_ | refine wp_reg (by simp [e2, h0, h0', hr0, hl]; with_reducible rfl) (by simp; with_reducible rfl) ?_ | (refine wp_ct (t := true) ?_ (fun _ => ?_) (fun hh => nomatch hh); focus (simp [e2, h0, h0', hr0, hl]; done)) | (refine wp_ct (t := false) ?_ (fun hh => nomatch hh) (fun _ => ?_); focus (simp [e2, h0, h0', hr0, hl]; done)) | (refine wp_c (t := true) ?_ (fun _ => ?_) (fun hh => nomatch hh); focus (simp [e2, h0, h0', hr0, hl]; done)) | (refine wp_c (t := false) ?_ (fun hh => nomatch hh) (fun _ => ?_); focus (simp [e2, h0, h0', hr0, hl]; done)) | refine wp_bs ?_ | refine wp_b ?_ | refine wp_sr ?_ | refine wp_sx ?_ | refine wp_ret' ?_ | refine wp_skip' ?_ | refine wp_exit' ?_)
  simp [if_impl_copyTable]

theorem ev_copyMatrix (t : List (List Int)) (c : Bool) (h : Small2 t) :
    Ev tb l_spec_copyMatrix [] [TL t c] [] ⟨OT t, [], [], []⟩ := by
  have hl := h.1
  have loop : ∀ (m i : Nat), i + m = t.length → wp tb (.loop ic_spec_copyMatrix_l6) { T := [(0, TL t c), (3, OT (t.take i)), (4, I i)], loc := [], M := [] }
      (fun ex st => ex = .exit 0 ∧ st = { T := [(0, TL t c), (3, OT t), (4, I t.length), (9, Bo false)], loc := [], M := [] }) := by
    intro m
    induction m with
    | zero =>
      intro i hi
      have h3 : i = t.length := hi
      subst h3
      refine wp_loop ?_
      repeat (first | refine wp_as ?_ | refine wp_ss ?_ | refine wp_rs (by simp; with_reducible rfl) (by simp; with_reducible rfl) ?_ | refine wp_reg (by simp; with_reducible rfl) (by simp; with_reducible rfl) ?_ | (refine wp_ct (t := true) ?_ (fun _ => ?_) (fun hh => nomatch hh); focus (simp; done)) | (refine wp_ct (t := false) ?_ (fun hh => nomatch hh) (fun _ => ?_); focus (simp; done)) | (refine wp_c (t := true) ?_ (fun _ => ?_) (fun hh => nomatch hh); focus (simp; done)) | (refine wp_c (t := false) ?_ (fun hh => nomatch hh) (fun _ => ?_); focus (simp; done)) | refine wp_bs ?_ | refine wp_b ?_ | refine wp_sr ?_ | refine wp_sx ?_ | refine wp_ret' ?_ | refine wp_skip' ?_ | refine wp_exit' ?_)
      exact ⟨rfl, by simp⟩
    | succ m ih =>
      intro i hi
      have hi2 : i < t.length := by omega
      have w2 : IntKind.i64.wrap ((i : Int) + 1) = ((i + 1 : Nat) : Int) := wrapS (by omega)
      have e1 := ev_lim (ev_copyInts t[i] false (by have := (h.2 _ (List.getElem_mem hi2)).1; omega))
      have hlt : (t.take i).length ≤ 274877906943 := by simp; omega
      have hs : t.take i ++ [t[i]] = t.take (i + 1) := by rw [List.take_succ_eq_append_getElem hi2]
      have hg := ih (i + 1) (by omega)
      rw [← hs] at hg
      generalize t.take i = u at *
      refine wp_loop ?_
      repeat (first | refine wp_as ?_ | refine wp_ss ?_ | refine wp_rs (by simp [hi2, e1, hlt, w2]; with_reducible rfl) (by simp; with_reducible rfl) ?_ | refine wp_reg (by simp [hi2, e1, hlt, w2]; with_reducible rfl) (by simp; with_reducible rfl) ?_ | (refine wp_ct (t := true) ?_ (fun _ => ?_) (fun hh => nomatch hh); focus (simp [hi2, e1, hlt, w2]; done)) | (refine wp_ct (t := false) ?_ (fun hh => nomatch hh) (fun _ => ?_); focus (simp [hi2, e1, hlt, w2]; done)) | (refine wp_c (t := true) ?_ (fun _ => ?_) (fun hh => nomatch hh); focus (simp [hi2, e1, hlt, w2]; done)) | (refine wp_c (t := false) ?_ (fun hh => nomatch hh) (fun _ => ?_); focus (simp [hi2, e1, hlt, w2]; done)) | refine wp_bs ?_ | refine wp_b ?_ | refine wp_sr ?_ | refine wp_sx ?_ | refine wp_ret' ?_ | refine wp_skip' ?_ | refine wp_exit' ?_)
      exact hg
  refine call_of_wp tb_spec_copyMatrix rfl ?_
  repeat (first | refine wp_as ?_ | refine wp_ss ?_ | refine wp_rs (by simp; with_reducible rfl) (by simp; with_reducible rfl) ?_ | refine wp_reg (by simp; with_reducible rfl) (by simp; with_reducible rfl) ?_ | (refine wp_ct (t := true) ?_ (fun _ => ?_) (fun hh => nomatch hh); focus (simp; done)) | (refine wp_ct (t := false) ?_ (fun hh => nomatch hh) (fun _ => ?_); focus (simp; done)) | (refine wp_c (t := true) ?_ (fun _ => ?_) (fun hh => nomatch hh); focus (simp; done)) | (refine wp_c (t := false) ?_ (fun hh => nomatch hh) (fun _ => ?_); focus (simp; done)) | refine wp_bs ?_ | refine wp_b ?_ | refine wp_sr ?_ | refine wp_sx ?_ | refine wp_ret' ?_ | refine wp_skip' ?_ | refine wp_exit' ?_)
  have := loop t.length 0 (by omega)
  simp at this
  refine wp_imp this ?_
  rintro ex st ⟨rfl, rfl⟩
  simp only [if_true]
  repeat (first | refine wp_as ?_ | refine wp_ss ?_ | refine wp_rs (by simp; with_reducible rfl) (by simp; with_reducible rfl) ?_ | refine wp_reg (by simp; with_reducible rfl) (by simp; with_reducible rfl) ?_ | (refine wp_ct (t := true) ?_ (fun _ => ?_) (fun hh => nomatch hh); focus (simp; done)) | (refine wp_ct (t := false) ?_ (fun hh => nomatch hh) (fun _ => ?_); focus (simp; done)) | (refine wp_c (t := true) ?_ (fun _ => ?_) (fun hh => nomatch hh); focus (simp; done)) | (refine wp_c (t := false) ?_ (fun hh => nomatch hh) (fun _ => ?_); focus (simp; done)) | refine wp_bs ?_ | refine wp_b ?_ | refine wp_sr ?_ | refine wp_sx ?_ | refine wp_ret' ?_ | refine wp_skip' ?_ | refine wp_exit' ?_)
  simp [if_spec_copyMatrix]

theorem ev_equalLists (t u : List (List Int)) (c d : Bool) (ht : Small2 t) (hu : Small2 u) :
    Ev tb l_laws_equalLists [] [TL t c, TL u d] [] ⟨Bo (decide (t = u)), [], [], []⟩ := by
  have hl := ht.1
  have hm := hu.1
  by_cases he : t.length = u.length
  · have loop : ∀ (m i : Nat), i + m = t.length → wp tb (.loop ic_laws_equalLists_l8) { T := [(0, TL t c), (1, TL u d), (5, I i)], loc := [], M := [] }
      (fun ex st => (ex = .exit 0 ∧ t.drop i = u.drop i ∧ st = { T := [(0, TL t c), (1, TL u d), (5, I t.length), (14, Bo false)], loc := [], M := [] }) ∨
        ex = .ret ∧ t.drop i ≠ u.drop i ∧ st = { T := [(4, Bo false)], loc := [], M := [] }) := by
      intro m
      induction m with
      | zero =>
        intro i hi
        obtain ⟨h1, h2⟩ := drop_endA hi
        obtain ⟨h1', h2'⟩ := drop_endA (he ▸ hi)
        have h3 : i = t.length := hi
        subst h3
        refine wp_loop ?_
        repeat (first | refine wp_as ?_ | refine wp_ss ?_ | refine wp_rs (by simp; with_reducible rfl) (by simp; with_reducible rfl) ?_ | refine wp_reg (by simp; with_reducible rfl) (by simp; with_reducible rfl) ?_ | (refine wp_ct (t := true) ?_ (fun _ => ?_) (fun hh => nomatch hh); focus (simp; done)) | (refine wp_ct (t := false) ?_ (fun hh => nomatch hh) (fun _ => ?_); focus (simp; done)) | (refine wp_c (t := true) ?_ (fun _ => ?_) (fun hh => nomatch hh); focus (simp; done)) | (refine wp_c (t := false) ?_ (fun hh => nomatch hh) (fun _ => ?_); focus (simp; done)) | refine wp_bs ?_ | refine wp_b ?_ | refine wp_sr ?_ | refine wp_sx ?_ | refine wp_ret' ?_ | refine wp_skip' ?_ | refine wp_exit' ?_)
        refine .inl ⟨rfl, by rw [h2, h2'], rfl⟩
      | succ m ih =>
        intro i hi
        obtain ⟨hi2, h2, h3⟩ := drop_getA hi
        obtain ⟨hi2', h2', h3'⟩ := drop_getA (he ▸ hi)
        have w2 : IntKind.i64.wrap ((i : Int) + 1) = ((i + 1 : Nat) : Int) := wrapS (by omega)
        have e1 := ev_lim (ev_equalInts t[i] u[i] false false (by have := (ht.2 _ h3).1; omega) (by have := (hu.2 _ h3').1; omega))
        rw [h2, h2']
        by_cases hx : t[i] = u[i]
        · rw [decide_eq_true hx] at e1
          refine wp_loop ?_
          repeat (first | refine wp_as ?_ | refine wp_ss ?_ | refine wp_rs (by simp [hi2, hi2', w2, e1]; with_reducible rfl) (by simp; with_reducible rfl) ?_ | refine wp_reg (by simp [hi2, hi2', w2, e1]; with_reducible rfl) (by simp; with_reducible rfl) ?_ | (refine wp_ct (t := true) ?_ (fun _ => ?_) (fun hh => nomatch hh); focus (simp [hi2, hi2', w2, e1]; done)) | (refine wp_ct (t := false) ?_ (fun hh => nomatch hh) (fun _ => ?_); focus (simp [hi2, hi2', w2, e1]; done)) | (refine wp_c (t := true) ?_ (fun _ => ?_) (fun hh => nomatch hh); focus (simp [hi2, hi2', w2, e1]; done)) | (refine wp_c (t := false) ?_ (fun hh => nomatch hh) (fun _ => ?_); focus (simp [hi2, hi2', w2, e1]; done)) | refine wp_bs ?_ | refine wp_b ?_ | refine wp_sr ?_ | refine wp_sx ?_ | refine wp_ret' ?_ | refine wp_skip' ?_ | refine wp_exit' ?_)
          have := ih (i + 1) (by omega)
          simp only [List.cons.injEq, true_and, ne_eq, hx] at this ⊢
          exact this
        · rw [decide_eq_false hx] at e1
          refine wp_loop ?_
          repeat (first | refine wp_as ?_ | refine wp_ss ?_ | refine wp_rs (by simp [hi2, hi2', w2, e1]; with_reducible rfl) (by simp; with_reducible rfl) ?_ | refine wp_reg (by simp [hi2, hi2', w2, e1]; with_reducible rfl) (by simp; with_reducible rfl) ?_ | (refine wp_ct (t := true) ?_ (fun _ => ?_) (fun hh => nomatch hh); focus (simp [hi2, hi2', w2, e1]; done)) | (refine wp_ct (t := false) ?_ (fun hh => nomatch hh) (fun _ => ?_); focus (simp [hi2, hi2', w2, e1]; done)) | (refine wp_c (t := true) ?_ (fun _ => ?_) (fun hh => nomatch hh); focus (simp [hi2, hi2', w2, e1]; done)) | (refine wp_c (t := false) ?_ (fun hh => nomatch hh) (fun _ => ?_); focus (simp [hi2, hi2', w2, e1]; done)) | refine wp_bs ?_ | refine wp_b ?_ | refine wp_sr ?_ | refine wp_sx ?_ | refine wp_ret' ?_ | refine wp_skip' ?_ | refine wp_exit' ?_)
          refine .inr ⟨rfl, by simp only [ne_eq, List.cons.injEq, hx, false_and, not_false_eq_true], rfl⟩
    refine call_of_wp tb_laws_equalLists rfl ?_
    repeat (first | refine wp_as ?_ | refine wp_ss ?_ | refine wp_rs (by simp [he]; with_reducible rfl) (by simp; with_reducible rfl) ?_ | refine wp_reg (by simp [he]; with_reducible rfl) (by simp; with_reducible rfl) ?_ | (refine wp_ct (t := true) ?_ (fun _ => ?_) (fun hh => nomatch hh); focus (simp [he]; done)) | (refine wp_ct (t := false) ?_ (fun hh => nomatch hh) (fun _ => ?_); focus (simp [he]; done)) | (refine wp_c (t := true) ?_ (fun _ => ?_) (fun hh => nomatch hh); focus (simp [he]; done)) | (refine wp_c (t := false) ?_ (fun hh => nomatch hh) (fun _ => ?_); focus (simp [he]; done)) | refine wp_bs ?_ | refine wp_b ?_ | refine wp_sr ?_ | refine wp_sx ?_ | refine wp_ret' ?_ | refine wp_skip' ?_ | refine wp_exit' ?_)
    refine wp_imp (loop t.length 0 (by simp)) ?_
    rintro ex st (⟨rfl, h, rfl⟩ | ⟨rfl, h, rfl⟩)
    · simp only [if_true]
      repeat (first | refine wp_as ?_ | refine wp_ss ?_ | refine wp_rs (by simp; with_reducible rfl) (by simp; with_reducible rfl) ?_ | refine wp_reg (by simp; with_reducible rfl) (by simp; with_reducible rfl) ?_ | (refine wp_ct (t := true) ?_ (fun _ => ?_) (fun hh => nomatch hh); focus (simp; done)) | (refine wp_ct (t := false) ?_ (fun hh => nomatch hh) (fun _ => ?_); focus (simp; done)) | (refine wp_c (t := true) ?_ (fun _ => ?_) (fun hh => nomatch hh); focus (simp; done)) | (refine wp_c (t := false) ?_ (fun hh => nomatch hh) (fun _ => ?_); focus (simp; done)) | refine wp_bs ?_ | refine wp_b ?_ | refine wp_sr ?_ | refine wp_sx ?_ | refine wp_ret' ?_ | refine wp_skip' ?_ | refine wp_exit' ?_)
      simp only [List.drop_zero] at h
      simp [if_laws_equalLists, h]
    · simp only [List.drop_zero] at h
      simp [if_laws_equalLists, h]
  · have hne : t ≠ u := fun h => he (by rw [h])
    have h2 : ((t.length : Int) = u.length) ↔ t.length = u.length := by omega
    refine call_of_wp tb_laws_equalLists rfl ?_
    repeat (first | refine wp_as ?_ | refine wp_ss ?_ | refine wp_rs (by simp [he, h2]; with_reducible rfl) (by simp; with_reducible rfl) ?_ | refine wp_reg (by simp [he, h2]; with_reducible rfl) (by simp; with_reducible rfl) ?_ | (refine wp_ct (t := true) ?_ (fun _ => ?_) (fun hh => nomatch hh); focus (simp [he, h2]; done)) | (refine wp_ct (t := false) ?_ (fun hh => nomatch hh) (fun _ => ?_); focus (simp [he, h2]; done)) | (refine wp_c (t := true) ?_ (fun _ => ?_) (fun hh => nomatch hh); focus (simp [he, h2]; done)) | (refine wp_c (t := false) ?_ (fun hh => nomatch hh) (fun _ => ?_); focus (simp [he, h2]; done)) | refine wp_bs ?_ | refine wp_b ?_ | refine wp_sr ?_ | refine wp_sx ?_ | refine wp_ret' ?_ | refine wp_skip' ?_ | refine wp_exit' ?_)
    simp [if_laws_equalLists, hne]

end Go.Idl

namespace Go.Idl

open Go

/-- An arc turned round. -/
def fl (t : List (List Int)) (a b : Nat) : List (List Int) := (t.set a ((t.getD a []).set b 0)).set b ((t.getD b []).set a 1)

theorem fl_eq {t : List (List Int)} {a b : Nat} (ha : a < t.length) (hb : b < t.length) : fl t a b = (t.set a (t[a].set b 0)).set b (t[b].set a 1) := by
  simp [fl, List.getD_eq_getElem?_getD, List.getElem?_eq_getElem ha, List.getElem?_eq_getElem hb]

theorem TT.fl {n : Nat} {t : List (List Int)} (h : TT n t) {a b : Nat} (ha : a < n) (hb : b < n) (hne : a ≠ b) : TT n (fl t a b) := by
  have ha' : a < t.length := by rw [h.1]; exact ha
  have hb' : b < t.length := by rw [h.1]; exact hb
  rw [fl_eq ha' hb']
  have h1 := h.set (b := b) (v := 0) ha' (by omega)
  have hb2 : b < (t.set a (t[a].set b 0)).length := by simpa using hb'
  have h2 := h1.set (b := a) (v := 1) hb2 (by omega)
  have : (t.set a (t[a].set b 0))[b] = t[b] := by rw [List.getElem_set_ne hne]
  rw [this] at h2
  exact h2

theorem tt_step (n : Nat) (hn : n ≤ 5) (t : List (List Int)) (es : List (Int × Int)) (B : Boxes) (i a b : Nat) (hi : i < es.length) (hes : es.length ≤ 100) (he : es[i] = ((a : Int), (b : Int)))
    (ht : TT n t) (ha : a < n) (hb : b < n) (hne : a ≠ b) (Q : Ex → St → Prop)
    (h : wp tb (.loop ic_impl_TurnTriangle_l9) { T := [(10, OT (fl t a b)), (68, O2 es), (69, I es.length), (70, I ((i : Int) + 1))], loc := B ++ [[I a, I b]], M := [] } Q) :
    wp tb (.loop ic_impl_TurnTriangle_l9) { T := [(10, OT t), (68, O2 es), (69, I es.length), (70, I i)], loc := B, M := [] } Q := by
  have hl := ht.1
  have ha' : a < t.length := by omega
  have hb' : b < t.length := by omega
  have hra : b < t[a].length := by have := (ht.2 _ (List.getElem_mem ha')).1; omega
  have hrb : a < t[b].length := by have := (ht.2 _ (List.getElem_mem hb')).1; omega
  have w2 : IntKind.i64.wrap ((i : Int) + 1) = (i : Int) + 1 := wrap64 (by omega) (by omega)
  rw [fl_eq ha' hb'] at h
  refine wp_loop ?_
  repeat (first | refine wp_as ?_ | refine wp_ss ?_ | refine wp_rs (by simp [hi, he]; with_reducible rfl) (by simp; with_reducible rfl) ?_ | refine wp_reg (by simp [hi, he]; with_reducible rfl) (by simp; with_reducible rfl) ?_ | (refine wp_ct (t := true) ?_ (fun _ => ?_) (fun hh => nomatch hh); focus (simp [hi, he]; done)) | (refine wp_ct (t := false) ?_ (fun hh => nomatch hh) (fun _ => ?_); focus (simp [hi, he]; done)) | (refine wp_c (t := true) ?_ (fun _ => ?_) (fun hh => nomatch hh); focus (simp [hi, he]; done)) | (refine wp_c (t := false) ?_ (fun hh => nomatch hh) (fun _ => ?_); focus (simp [hi, he]; done)) | refine wp_bs ?_ | refine wp_b ?_ | refine wp_sr ?_ | refine wp_sx ?_ | refine wp_ret' ?_ | refine wp_skip' ?_ | refine wp_exit' ?_)
  refine wp_rega (by simp [ha', hb', hra, hrb, hne, List.getElem_set]; with_reducible rfl) (by simp; with_reducible rfl) ?_ ?_
  · intro p hp
    simp only [List.mem_cons, List.not_mem_nil, or_false] at hp
    subst hp
    exact ⟨_, by simp [ha', hb', hra, hrb, hne, List.getElem_set]; with_reducible rfl, by simp⟩
  repeat (first | refine wp_as ?_ | refine wp_ss ?_ | refine wp_rs (by simp [w2]; with_reducible rfl) (by simp; with_reducible rfl) ?_ | refine wp_reg (by simp [w2]; with_reducible rfl) (by simp; with_reducible rfl) ?_ | (refine wp_ct (t := true) ?_ (fun _ => ?_) (fun hh => nomatch hh); focus (simp [w2]; done)) | (refine wp_ct (t := false) ?_ (fun hh => nomatch hh) (fun _ => ?_); focus (simp [w2]; done)) | (refine wp_c (t := true) ?_ (fun _ => ?_) (fun hh => nomatch hh); focus (simp [w2]; done)) | (refine wp_c (t := false) ?_ (fun hh => nomatch hh) (fun _ => ?_); focus (simp [w2]; done)) | refine wp_bs ?_ | refine wp_b ?_ | refine wp_sr ?_ | refine wp_sx ?_ | refine wp_ret' ?_ | refine wp_skip' ?_ | refine wp_exit' ?_)
  exact h

def turned (t : List (List Int)) (a b c : Nat) : List (List Int) := fl (fl (fl t a b) b c) c a

/-- A triangle. -/
structure Tri (t : List (List Int)) (a b c : Nat) : Prop where
  tr : Tour t
  la : a < t.length
  lb : b < t.length
  lc : c < t.length
  ab : g2 t a b = 1
  bc : g2 t b c = 1
  ca : g2 t c a = 1

theorem Tour.tt {t : List (List Int)} (h : Tour t) : TT t.length t := ⟨rfl, fun r hr => ⟨(h.2.1 r hr).1, (h.2.1 r hr).2⟩⟩

theorem Tour.diag {t : List (List Int)} (h : Tour t) {a : Nat} (ha : a < t.length) : g2 t a a = 0 := by have := h.2.2 a a ha ha; simpa [tAt] using this

theorem Tri.nab {t a b c} (h : Tri t a b c) : a ≠ b := by rintro rfl; have := h.ab; rw [h.tr.diag h.la] at this; omega

theorem Tri.nbc {t a b c} (h : Tri t a b c) : b ≠ c := by rintro rfl; have := h.bc; rw [h.tr.diag h.lb] at this; omega

theorem Tri.nca {t a b c} (h : Tri t a b c) : c ≠ a := by rintro rfl; have := h.ca; rw [h.tr.diag h.lc] at this; omega

theorem ev_impl_TurnTriangle (t : List (List Int)) (cl : Bool) (a b c : Nat) (h : Tri t a b c) :
    Ev tb l_impl_TurnTriangle [] [TL t cl, I a, I b, I c] [] ⟨.tup [OT (turned t a b c), Bo true], [], [], []⟩ := by
  have hl := h.tr.1
  have la := h.la
  have lb := h.lb
  have lc := h.lc
  have n1 := h.nab
  have n2 := h.nbc
  have n3 := h.nca
  have e1 := ev_lim (ev_ValidTournament t cl (by omega) (fun r hr => by have := (h.tr.2.1 r hr).1; omega))
  rw [vT_true.2 h.tr] at e1
  have e2 := ev_lim (ev_allIn [(a : Int), (b : Int), (c : Int)] false 0 ((t.length : Int) - 1) (by simp))
  rw [show ([(a : Int), (b : Int), (c : Int)].all fun x => decide (0 ≤ x) && decide (x ≤ (t.length : Int) - 1)) = true by
    simp; omega] at e2
  have w1 : IntKind.i64.wrap ((t.length : Int) - 1) = (t.length : Int) - 1 := wrap64 (by omega) (by omega)
  have ra := (h.tr.2.1 _ (List.getElem_mem la)).1
  have rb := (h.tr.2.1 _ (List.getElem_mem lb)).1
  have rc := (h.tr.2.1 _ (List.getElem_mem lc)).1
  have lab : b < t[a].length := by omega
  have lbc : c < t[b].length := by omega
  have lca : a < t[c].length := by omega
  have x1 := h.ab
  have x2 := h.bc
  have x3 := h.ca
  rw [g2_eq la lab] at x1
  rw [g2_eq lb lbc] at x2
  rw [g2_eq lc lca] at x3
  have e3 := ev_lim (ev_copyTable t.length t cl h.tr.tt (by omega) (by omega))
  have hT := h.tr.tt
  have hT1 := hT.fl la lb n1
  have hT2 := hT1.fl lb lc n2
  have h5 := hl.2
  refine call_of_wp tb_impl_TurnTriangle rfl ?_
  repeat (first | refine wp_as ?_ | refine wp_ss ?_ | refine wp_rs (by simp [e1, e2, w1, la, lb, lc, lab, lbc, lca, x1, x2, x3, e3]; with_reducible rfl) (by simp; with_reducible rfl) ?_ | refine wp_reg (by simp [e1, e2, w1, la, lb, lc, lab, lbc, lca, x1, x2, x3, e3]; with_reducible rfl) (by simp; with_reducible rfl) ?_ | (refine wp_ct (t := true) ?_ (fun _ => ?_) (fun hh => nomatch hh); focus (simp [e1, e2, w1, la, lb, lc, lab, lbc, lca, x1, x2, x3, e3]; done)) | (refine wp_ct (t := false) ?_ (fun hh => nomatch hh) (fun _ => ?_); focus (simp [e1, e2, w1, la, lb, lc, lab, lbc, lca, x1, x2, x3, e3]; done)) | (refine wp_c (t := true) ?_ (fun _ => ?_) (fun hh => nomatch hh); focus (simp [e1, e2, w1, la, lb, lc, lab, lbc, lca, x1, x2, x3, e3]; done)) | (refine wp_c (t := false) ?_ (fun hh => nomatch hh) (fun _ => ?_); focus (simp [e1, e2, w1, la, lb, lc, lab, lbc, lca, x1, x2, x3, e3]; done)) | refine wp_bs ?_ | refine wp_b ?_ | refine wp_sr ?_ | refine wp_sx ?_ | refine wp_ret' ?_ | refine wp_skip' ?_ | refine wp_exit' ?_)
  have key : ∀ Q : Ex → St → Prop, (∀ loc, Q (.exit 0) { T := [(10, OT (turned t a b c)), (68, O2 [((a : Int), (b : Int)), ((b : Int), (c : Int)), ((c : Int), (a : Int))]), (69, I 3), (70, I 3), (71, Bo false)], loc := loc, M := [] }) →
      wp tb (.loop ic_impl_TurnTriangle_l9) { T := [(10, OT t), (68, O2 [((a : Int), (b : Int)), ((b : Int), (c : Int)), ((c : Int), (a : Int))]), (69, I 3), (70, I 0)], loc := [], M := [] } Q := by
    intro Q hQ
    refine tt_step t.length h5 t [((a : Int), (b : Int)), ((b : Int), (c : Int)), ((c : Int), (a : Int))] [] 0 a b (by simp) (by simp) rfl hT la lb n1 Q ?_
    refine tt_step t.length h5 _ [((a : Int), (b : Int)), ((b : Int), (c : Int)), ((c : Int), (a : Int))] _ 1 b c (by simp) (by simp) rfl hT1 lb lc n2 Q ?_
    refine tt_step t.length h5 _ [((a : Int), (b : Int)), ((b : Int), (c : Int)), ((c : Int), (a : Int))] _ 2 c a (by simp) (by simp) rfl hT2 lc la n3 Q ?_
    refine wp_loop ?_
    repeat (first | refine wp_as ?_ | refine wp_ss ?_ | refine wp_rs (by simp; with_reducible rfl) (by simp; with_reducible rfl) ?_ | refine wp_reg (by simp; with_reducible rfl) (by simp; with_reducible rfl) ?_ | (refine wp_ct (t := true) ?_ (fun _ => ?_) (fun hh => nomatch hh); focus (simp; done)) | (refine wp_ct (t := false) ?_ (fun hh => nomatch hh) (fun _ => ?_); focus (simp; done)) | (refine wp_c (t := true) ?_ (fun _ => ?_) (fun hh => nomatch hh); focus (simp; done)) | (refine wp_c (t := false) ?_ (fun hh => nomatch hh) (fun _ => ?_); focus (simp; done)) | refine wp_bs ?_ | refine wp_b ?_ | refine wp_sr ?_ | refine wp_sx ?_ | refine wp_ret' ?_ | refine wp_skip' ?_ | refine wp_exit' ?_)
    exact hQ _
  refine key _ ?_
  intro loc
  simp only [if_true]
  repeat (first | refine wp_as ?_ | refine wp_ss ?_ | refine wp_rs (by simp; with_reducible rfl) (by simp; with_reducible rfl) ?_ | refine wp_reg (by simp; with_reducible rfl) (by simp; with_reducible rfl) ?_ | (refine wp_ct (t := true) ?_ (fun _ => ?_) (fun hh => nomatch hh); focus (simp; done)) | (refine wp_ct (t := false) ?_ (fun hh => nomatch hh) (fun _ => ?_); focus (simp; done)) | (refine wp_c (t := true) ?_ (fun _ => ?_) (fun hh => nomatch hh); focus (simp; done)) | (refine wp_c (t := false) ?_ (fun hh => nomatch hh) (fun _ => ?_); focus (simp; done)) | refine wp_bs ?_ | refine wp_b ?_ | refine wp_sr ?_ | refine wp_sx ?_ | refine wp_ret' ?_ | refine wp_skip' ?_ | refine wp_exit' ?_)
  simp [if_impl_TurnTriangle]

end Go.Idl

namespace Go.Idl

open Go

theorem ev_spec_TurnTriangle (t : List (List Int)) (cl : Bool) (a b c : Nat) (h : Tri t a b c) :
    Ev tb l_spec_TurnTriangle [] [TL t cl, I a, I b, I c] [] ⟨.tup [OT (turned t a b c), Bo true], [], [], []⟩ := by
  have hl := h.tr.1
  have la := h.la
  have lb := h.lb
  have lc := h.lc
  have n1 := h.nab
  have n2 := h.nbc
  have n3 := h.nca
  have hT := h.tr.tt
  have e1 := ev_lim (ev_validTournament t cl h.tr.small)
  rw [vT_true.2 h.tr] at e1
  have ea := ev_lim (ev_inRange (a : Int) 0 ((t.length : Int) - 1))
  rw [show (decide ((0 : Int) ≤ (a : Int)) && decide ((a : Int) ≤ (t.length : Int) - 1)) = true by simp; omega] at ea
  have eb := ev_lim (ev_inRange (b : Int) 0 ((t.length : Int) - 1))
  rw [show (decide ((0 : Int) ≤ (b : Int)) && decide ((b : Int) ≤ (t.length : Int) - 1)) = true by simp; omega] at eb
  have ec := ev_lim (ev_inRange (c : Int) 0 ((t.length : Int) - 1))
  rw [show (decide ((0 : Int) ≤ (c : Int)) && decide ((c : Int) ≤ (t.length : Int) - 1)) = true by simp; omega] at ec
  have w1 : IntKind.i64.wrap ((t.length : Int) - 1) = (t.length : Int) - 1 := wrap64 (by omega) (by omega)
  have ra := (h.tr.2.1 _ (List.getElem_mem la)).1
  have rb := (h.tr.2.1 _ (List.getElem_mem lb)).1
  have rc := (h.tr.2.1 _ (List.getElem_mem lc)).1
  have lab : b < t[a].length := by omega
  have lbc : c < t[b].length := by omega
  have lca : a < t[c].length := by omega
  have x1 := h.ab
  have x2 := h.bc
  have x3 := h.ca
  rw [g2_eq la lab] at x1
  rw [g2_eq lb lbc] at x2
  rw [g2_eq lc lca] at x3
  have e3 := ev_lim (ev_copyMatrix t cl h.tr.small)
  have hT1 := hT.fl la lb n1
  have hT2 := hT1.fl lb lc n2
  have lba : a < t[b].length := by omega
  have f1 := fl_eq la lb
  obtain ⟨u, hu⟩ : ∃ u, u = fl t a b := ⟨_, rfl⟩
  rw [← hu] at hT1 hT2 f1
  have ub : b < u.length := by rw [hT1.1]; exact lb
  have uc : c < u.length := by rw [hT1.1]; exact lc
  have ubc : c < u[b].length := by rw [(hT1.2 _ (List.getElem_mem ub)).1]; exact lc
  have ucb : b < u[c].length := by rw [(hT1.2 _ (List.getElem_mem uc)).1]; exact lb
  have f2 := fl_eq ub uc
  obtain ⟨v, hv⟩ : ∃ v, v = fl u b c := ⟨_, rfl⟩
  rw [← hv] at hT2 f2
  have vc : c < v.length := by rw [hT2.1]; exact lc
  have va : a < v.length := by rw [hT2.1]; exact la
  have vca : a < v[c].length := by rw [(hT2.2 _ (List.getElem_mem vc)).1]; exact la
  have vac : c < v[a].length := by rw [(hT2.2 _ (List.getElem_mem va)).1]; exact lc
  have f3 := fl_eq vc va
  have hw : turned t a b c = fl v c a := by rw [turned, ← hu, ← hv]
  rw [hw]
  refine call_of_wp tb_spec_TurnTriangle rfl ?_
  repeat (first | refine wp_as ?_ | refine wp_ss ?_ | refine wp_rs (by simp [e1, ea, eb, ec, w1, la, lb, lc, lab, lbc, lca, x1, x2, x3]; with_reducible rfl) (by simp; with_reducible rfl) ?_ | refine wp_reg (by simp [e1, ea, eb, ec, w1, la, lb, lc, lab, lbc, lca, x1, x2, x3]; with_reducible rfl) (by simp; with_reducible rfl) ?_ | (refine wp_ct (t := true) ?_ (fun _ => ?_) (fun hh => nomatch hh); focus (simp [e1, ea, eb, ec, w1, la, lb, lc, lab, lbc, lca, x1, x2, x3]; done)) | (refine wp_ct (t := false) ?_ (fun hh => nomatch hh) (fun _ => ?_); focus (simp [e1, ea, eb, ec, w1, la, lb, lc, lab, lbc, lca, x1, x2, x3]; done)) | (refine wp_c (t := true) ?_ (fun _ => ?_) (fun hh => nomatch hh); focus (simp [e1, ea, eb, ec, w1, la, lb, lc, lab, lbc, lca, x1, x2, x3]; done)) | (refine wp_c (t := false) ?_ (fun hh => nomatch hh) (fun _ => ?_); focus (simp [e1, ea, eb, ec, w1, la, lb, lc, lab, lbc, lca, x1, x2, x3]; done)) | refine wp_bs ?_ | refine wp_b ?_ | refine wp_sr ?_ | refine wp_sx ?_ | refine wp_ret' ?_ | refine wp_skip' ?_ | refine wp_exit' ?_)
  refine wp_rs (by simp [e3]; with_reducible rfl) (by simp; with_reducible rfl) ?_
  refine wp_rs (by simp [la, lb, lab, lba, n1, List.getElem_set]; with_reducible rfl) (by simp; with_reducible rfl) ?_
  refine wp_rs (by simp [la, lb, lab, lba, n1, List.getElem_set, ← f1]; with_reducible rfl) (by simp; with_reducible rfl) ?_
  refine wp_rs (by simp [ub, uc, ubc, ucb, n2, List.getElem_set]; with_reducible rfl) (by simp; with_reducible rfl) ?_
  refine wp_rs (by simp [ub, uc, ubc, ucb, n2, List.getElem_set, ← f2]; with_reducible rfl) (by simp; with_reducible rfl) ?_
  refine wp_rs (by simp [vc, va, vca, vac, n3, List.getElem_set]; with_reducible rfl) (by simp; with_reducible rfl) ?_
  refine wp_rs (by simp [vc, va, vca, vac, n3, List.getElem_set, ← f3]; with_reducible rfl) (by simp; with_reducible rfl) ?_
  repeat (first | refine wp_as ?_ | refine wp_ss ?_ | refine wp_rs (by simp; with_reducible rfl) (by simp; with_reducible rfl) ?_ | refine wp_reg (by simp; with_reducible rfl) (by simp; with_reducible rfl) ?_ | (refine wp_ct (t := true) ?_ (fun _ => ?_) (fun hh => nomatch hh); focus (simp; done)) | (refine wp_ct (t := false) ?_ (fun hh => nomatch hh) (fun _ => ?_); focus (simp; done)) | (refine wp_c (t := true) ?_ (fun _ => ?_) (fun hh => nomatch hh); focus (simp; done)) | (refine wp_c (t := false) ?_ (fun hh => nomatch hh) (fun _ => ?_); focus (simp; done)) | refine wp_bs ?_ | refine wp_b ?_ | refine wp_sr ?_ | refine wp_sx ?_ | refine wp_ret' ?_ | refine wp_skip' ?_ | refine wp_exit' ?_)
  simp [if_spec_TurnTriangle]

end Go.Idl

