/- Part 6 of a proof by an ideal interpreter of the code: its definitions and lemmas. Conditions: none. -/
import Derived.KernelRfl
import Derived.Test.YtlbldcibnhgekaaA5
set_option linter.all false
set_option linter.unusedVariables false
set_option linter.unusedSimpArgs false
namespace Go.Idl

open Go

def sN (l : List Nat) (f : Nat → Int) : Int := (l.map f).sum

theorem sN_perm {l m : List Nat} (h : l.Perm m) (f : Nat → Int) : sN l f = sN m f := perm_sum (h.map f)

theorem sN_cons (x : Nat) (r : List Nat) (f : Nat → Int) : sN (x :: r) f = f x + sN r f := by simp [sN]

theorem sN_app (l m : List Nat) (f : Nat → Int) : sN (l ++ m) f = sN l f + sN m f := by simp [sN]

theorem sN_add (l : List Nat) (f g : Nat → Int) : sN l (fun a => f a + g a) = sN l f + sN l g := by
  induction l with
  | nil => simp [sN]
  | cons x r ih => simp only [sN_cons, ih]; omega

theorem sN_congr {l : List Nat} {f g : Nat → Int} (h : ∀ a ∈ l, f a = g a) : sN l f = sN l g := by
  unfold sN; rw [List.map_congr_left h]

theorem sN_nonneg {l : List Nat} {f : Nat → Int} (h : ∀ a ∈ l, 0 ≤ f a) : 0 ≤ sN l f := by
  induction l with
  | nil => simp [sN]
  | cons x r ih =>
    have h1 := h x (by simp)
    have h2 := ih fun a ha => h a (by simp [ha])
    rw [sN_cons]; omega

theorem sN_zero {l : List Nat} {f : Nat → Int} (h : ∀ a ∈ l, 0 ≤ f a) : sN l f = 0 ↔ ∀ a ∈ l, f a = 0 := by
  induction l with
  | nil => simp [sN]
  | cons x r ih =>
    have h1 := h x (by simp)
    have h2 := sN_nonneg fun a ha => h a (List.mem_cons_of_mem x ha)
    have h3 := ih fun a ha => h a (by simp [ha])
    rw [sN_cons]
    constructor
    · intro he a ha
      rcases List.mem_cons.1 ha with rfl | ha
      · omega
      · exact h3.1 (by omega) a ha
    · intro hz
      have := h3.2 fun a ha => hz a (by simp [ha])
      have := hz x (by simp)
      omega

theorem sN_one (l : List Nat) : sN l (fun _ => 1) = l.length := by
  induction l with
  | nil => simp [sN]
  | cons y r ih => rw [sN_cons, ih]; simp; omega

/-- Within a set: each pair once. -/
theorem within {g : Nat → Nat → Int} : ∀ (X : List Nat), X.Nodup → (∀ a ∈ X, g a a = 0) → (∀ a ∈ X, ∀ b ∈ X, a ≠ b → g a b + g b a = 1) →
    2 * sN X (fun a => sN X (g a)) = (X.length : Int) * ((X.length : Int) - 1)
  | [], _, _, _ => by simp [sN]
  | x :: r, hd, h0, h1 => by
    have hd' := List.nodup_cons.1 hd
    have ih := within r hd'.2 (fun a ha => h0 a (by simp [ha])) (fun a ha b hb => h1 a (by simp [ha]) b (by simp [hb]))
    have e1 : sN r (fun a => sN (x :: r) (g a)) = sN r (fun a => g a x) + sN r (fun a => sN r (g a)) := by
      rw [← sN_add]; exact sN_congr fun a _ => sN_cons x r (g a)
    have e2 : sN r (g x) + sN r (fun a => g a x) = r.length := by
      rw [← sN_add, sN_congr (g := fun _ => 1) (fun a ha => h1 x (by simp) a (by simp [ha]) (fun e => hd'.1 (by rw [e]; exact ha))), sN_one]
    have e3 := h0 x (by simp)
    rw [sN_cons, sN_cons, e1, e3]
    simp only [List.length_cons]
    have : ((r.length + 1 : Nat) : Int) * (((r.length + 1 : Nat) : Int) - 1) = (r.length : Int) * ((r.length : Int) - 1) + 2 * r.length := by
      rw [Int.natCast_add, Int.natCast_one, Int.add_sub_cancel, Int.add_mul, Int.mul_sub]; omega
    rw [this, ← ih]; omega

theorem scr_sum {t : List (List Int)} (ht : Tour t) {a : Nat} (ha : a < t.length) : scr t a = sN (List.range t.length) (g2 t a) := by
  have hl := (ht.2.1 _ (List.getElem_mem ha)).1
  have : t[a] = (List.range t.length).map (g2 t a) := by
    refine List.ext_getElem (by simp [hl]) fun i h1 h2 => ?_
    simp [g2_eq ha h1]
  rw [sN, ← this]
  simp [scr, List.getD_eq_getElem?_getD, List.getElem?_eq_getElem ha]

theorem g2_01 {t : List (List Int)} (ht : Tour t) {a b : Nat} (ha : a < t.length) (hb : b < t.length) : 0 ≤ g2 t a b ∧ g2 t a b ≤ 1 := by
  have h := ht.2.1 _ (List.getElem_mem ha)
  have hb' : b < t[a].length := by omega
  rw [g2_eq ha hb']
  exact h.2 _ (List.getElem_mem hb')

/-- The scores of a set: pairs within, and arcs that leave. -/
theorem set_sum {t : List (List Int)} (ht : Tour t) {X Y : List Nat} (h : (X ++ Y).Perm (List.range t.length)) :
    2 * sN X (scr t) = (X.length : Int) * ((X.length : Int) - 1) + 2 * sN X (fun a => sN Y (g2 t a)) := by
  have hlt : ∀ a ∈ X ++ Y, a < t.length := fun a ha => List.mem_range.1 (h.mem_iff.1 ha)
  have hnd : (X ++ Y).Nodup := h.symm.nodup List.nodup_range
  have hX : ∀ a ∈ X, a < t.length := fun a ha => hlt a (by simp [ha])
  have e : sN X (scr t) = sN X (fun a => sN X (g2 t a)) + sN X (fun a => sN Y (g2 t a)) := by
    rw [← sN_add]
    refine sN_congr fun a ha => ?_
    rw [scr_sum ht (hX a ha), ← sN_perm h, sN_app]
  have hw := within (g := g2 t) X (List.nodup_append.1 hnd).1 (fun a ha => by have := ht.2.2 a a (hX a ha) (hX a ha); simpa [tAt] using this)
    (fun a ha b hb hne => by have := ht.2.2 a b (hX a ha) (hX b hb); simpa [tAt, hne] using this)
  rw [e]; omega

theorem leave_nonneg {t : List (List Int)} (ht : Tour t) {X Y : List Nat} (h : (X ++ Y).Perm (List.range t.length)) : 0 ≤ sN X (fun a => sN Y (g2 t a)) := by
  have hlt : ∀ a ∈ X ++ Y, a < t.length := fun a ha => List.mem_range.1 (h.mem_iff.1 ha)
  exact sN_nonneg fun a ha => sN_nonneg fun b hb => (g2_01 ht (hlt a (by simp [ha])) (hlt b (by simp [hb]))).1

theorem leave_zero {t : List (List Int)} (ht : Tour t) {X Y : List Nat} (h : (X ++ Y).Perm (List.range t.length)) :
    sN X (fun a => sN Y (g2 t a)) = 0 ↔ ∀ a ∈ X, ∀ b ∈ Y, g2 t a b = 0 := by
  have hlt : ∀ a ∈ X ++ Y, a < t.length := fun a ha => List.mem_range.1 (h.mem_iff.1 ha)
  rw [sN_zero fun a ha => sN_nonneg fun b hb => (g2_01 ht (hlt a (by simp [ha])) (hlt b (by simp [hb]))).1]
  constructor
  · intro hz a ha
    exact (sN_zero fun b hb => (g2_01 ht (hlt a (by simp [ha])) (hlt b (by simp [hb]))).1).1 (hz a ha)
  · intro hz a ha
    exact (sN_zero fun b hb => (g2_01 ht (hlt a (by simp [ha])) (hlt b (by simp [hb]))).1).2 (hz a ha)

theorem perm_map_ex {f : Nat → Int} {S T : List Int} (h : S.Perm T) : ∀ {l : List Nat}, l.map f = S → ∃ m : List Nat, l.Perm m ∧ m.map f = T := by
  induction h with
  | nil => intro l hl; exact ⟨l, .refl _, hl⟩
  | cons x h ih =>
    intro l hl
    cases l with
    | nil => simp at hl
    | cons y r =>
      simp only [List.map_cons, List.cons.injEq] at hl
      obtain ⟨m, h1, h2⟩ := ih hl.2
      exact ⟨y :: m, h1.cons y, by simp [h2, hl.1]⟩
  | swap x y r =>
    intro l hl
    match l, hl with
    | a :: b :: q, hl =>
      simp only [List.map_cons, List.cons.injEq] at hl
      exact ⟨b :: a :: q, .swap b a q, by simp [hl.1, hl.2.1, hl.2.2]⟩
  | trans h1 h2 ih1 ih2 =>
    intro l hl
    obtain ⟨m, a1, a2⟩ := ih1 hl
    obtain ⟨m', b1, b2⟩ := ih2 a2
    exact ⟨m', a1.trans b1, b2⟩

/-- The greatest are no less than others. -/
theorem part_le {D X Y : List Int} (hD : Desc D) (h : (Y ++ X).Perm D) : Y.sum ≤ (D.take Y.length).sum := by
  by_cases h0 : Y.length = 0
  · have : Y = [] := List.length_eq_zero_iff.1 h0
    subst this; simp
  obtain ⟨m, hm⟩ : ∃ m, Y.length = m + 1 := ⟨Y.length - 1, by omega⟩
  have hl := h.length_eq
  have hmD : m < D.length := by simp at hl; omega
  have e := take_eq_overB hD hmD
  have h1 := take_le_overB D[m] (Y ++ X) Y.length (by simp)
  rw [List.take_left' rfl, overB_perm h] at h1
  rw [hm] at h1 ⊢
  rw [e]; exact h1

end Go.Idl

namespace Go.Idl

open Go

theorem scores_map (t : List (List Int)) : scores t = (List.range t.length).map (scr t) := rfl

theorem asc0_take (s : List Int) (k : Nat) : ((asc0 s).take k).sum = ((fall s).drop ((fall s).length - k)).sum := by
  rw [asc0, List.take_reverse]
  exact perm_sum (List.reverse_perm _)

theorem bot_ex (t : List (List Int)) (k : Nat) (hk : k ≤ t.length) : ∃ X Y : List Nat, (X ++ Y).Perm (List.range t.length) ∧ X.length = k ∧ sN X (scr t) = ((asc0 (scores t)).take k).sum := by
  have hp : (scores t).Perm (asc0 (scores t)) := ((List.reverse_perm _).trans (fall_perm _)).symm
  obtain ⟨m, h1, h2⟩ := perm_map_ex hp (scores_map t).symm
  refine ⟨m.take k, m.drop k, by rw [List.take_append_drop]; exact h1.symm, ?_, ?_⟩
  · have := h1.length_eq
    simp at this ⊢; omega
  · rw [sN, List.map_take, h2]

theorem bot_le (t : List (List Int)) {X Y : List Nat} (h : (X ++ Y).Perm (List.range t.length)) : ((asc0 (scores t)).take X.length).sum ≤ sN X (scr t) := by
  have hD : (Y.map (scr t) ++ X.map (scr t)).Perm (fall (scores t)) := by
    refine List.Perm.trans ?_ (fall_perm _).symm
    rw [scores_map, ← List.map_append]
    exact (List.perm_append_comm.trans h).map _
  have h1 := part_le (fall_desc _) hD
  have h2 := perm_sum hD
  have h3 := sum_take_drop (fall (scores t)) (Y.map (scr t)).length
  have h4 := hD.length_eq
  rw [asc0_take]
  simp only [List.length_append, List.length_map] at h4 h1 h3
  have h5 : (fall (scores t)).length - X.length = Y.length := by omega
  rw [h5]
  simp only [List.sum_append] at h2
  rw [sN]
  omega

theorem over_i {t : List (List Int)} (ht : Tour t) {i : Nat} (hi : i < t.length) : 0 ≤ overT (scores t) i ∧
    (overT (scores t) i = 0 ↔ ∃ X Y : List Nat, (X ++ Y).Perm (List.range t.length) ∧ X.length = i + 1 ∧ ∀ a ∈ X, ∀ b ∈ Y, g2 t a b = 0) := by
  have key : ∀ {X Y : List Nat}, (X ++ Y).Perm (List.range t.length) → X.length = i + 1 → sN X (scr t) = ((i : Int) + 1) * i / 2 + sN X (fun a => sN Y (g2 t a)) := by
    intro X Y h hl
    have := set_sum ht h
    rw [hl, Int.natCast_add, Int.natCast_one, Int.add_sub_cancel] at this
    omega
  obtain ⟨X, Y, h1, h2, h3⟩ := bot_ex t (i + 1) hi
  have k1 := key h1 h2
  have k2 := leave_nonneg ht h1
  constructor
  · rw [overT]; omega
  · constructor
    · intro h0
      rw [overT] at h0
      exact ⟨X, Y, h1, h2, (leave_zero ht h1).1 (by omega)⟩
    · rintro ⟨X', Y', p1, p2, p3⟩
      have q1 := key p1 p2
      have q2 := (leave_zero ht p1).2 p3
      have q3 := bot_le t p1
      rw [p2] at q3
      rw [overT]; omega

theorem idx_le (p : Int → Bool) : ∀ (xs : List Int) (i : Int) (j : Nat) (h : j < xs.length), p xs[j] = true → idx p i xs ≤ i + j
  | x :: r, i, 0, _, hp => by
    have hp : p x = true := hp
    simp [idx, hp]
  | x :: r, i, j + 1, h, hp => by
    have := idx_le p r (i + 1) j (by simpa using h) (by simpa using hp)
    unfold idx
    split <;> omega

theorem idx_first (p : Int → Bool) : ∀ (xs : List Int) (i : Int) (m : Nat) (h : m < xs.length), (∀ j (hj : j < m), p (xs[j]'(by omega)) = false) → p xs[m] = true → idx p i xs = i + m
  | x :: r, i, 0, _, _, hp => by
    have hp : p x = true := hp
    simp [idx, hp]
  | x :: r, i, m + 1, h, hj, hp => by
    have h0 : p x = false := hj 0 (by omega)
    have := idx_first p r (i + 1) m (by simpa using h) (fun j hjm => by simpa using hj (j + 1) (by omega)) (by simpa using hp)
    unfold idx
    rw [h0, this]; simp; omega

theorem over_get (s : List Int) (i : Nat) (h : i < (over s).length) : (over s)[i] = overT s i := by simp [over, mapR]

theorem over_last {t : List (List Int)} (ht : Tour t) : overT (scores t) (t.length - 1) = 0 := by
  have := ht.1
  exact (over_i ht (by omega)).2.2 ⟨List.range t.length, [], by simp, by simp; omega, by simp⟩

theorem isScr_tour {t : List (List Int)} (ht : Tour t) : isScr (scores t) = true := by
  have hl := ht.1
  rw [isScr, Bool.and_eq_true, decide_eq_true_eq, decide_eq_true_eq]
  constructor
  · intro x hx
    obtain ⟨i, hi, rfl⟩ := List.getElem_of_mem hx
    rw [over_get]
    rw [over_len, scores_len] at hi
    exact (over_i ht hi).1
  · have h : (scores t).length - 1 < (over (scores t)).length := by rw [over_len, scores_len]; omega
    rw [List.getD_eq_getElem?_getD, List.getElem?_eq_getElem h, Option.getD_some, over_get, scores_len]
    exact over_last ht

open Classical in

theorem lastOnly_iff {t : List (List Int)} (ht : Tour t) : lastOnly (scores t) = true ↔ Strong t := by
  have hl := ht.1
  have hol : (over (scores t)).length = t.length := by rw [over_len, scores_len]
  rw [lastOnly, decide_eq_true_eq, scores_len]
  constructor
  · intro hi P hP a ha hPa b hb
    refine Classical.byContradiction fun hPb => ?_
    have hperm : ((List.range t.length).filter (fun x => decide (P x)) ++ (List.range t.length).filter (fun x => !decide (P x))).Perm (List.range t.length) := List.filter_append_perm _ _
    generalize hX : (List.range t.length).filter (fun x => decide (P x)) = X at hperm
    generalize hY : (List.range t.length).filter (fun x => !decide (P x)) = Y at hperm
    have haX : a ∈ X := by rw [← hX]; simp [ha, hPa]
    have hbY : b ∈ Y := by rw [← hY]; simp [hb, hPb]
    have l1 := List.length_pos_of_mem haX
    have l2 := List.length_pos_of_mem hbY
    have l3 := hperm.length_eq
    simp only [List.length_append, List.length_range] at l3
    have h0 : overT (scores t) (X.length - 1) = 0 := by
      refine (over_i ht (by omega)).2.2 ⟨X, Y, hperm, by omega, fun x hx y hy => ?_⟩
      rw [← hX] at hx
      rw [← hY] at hy
      simp at hx hy
      have := g2_01 ht hx.1 hy.1
      have hne : g2 t x y ≠ 1 := fun h => hy.2 (hP x y hx.1 hy.1 hx.2 h)
      omega
    have hxl : X.length - 1 < (over (scores t)).length := by omega
    have := idx_le (fun x => decide (0 = x)) (over (scores t)) 0 (X.length - 1) hxl (by rw [over_get, h0]; rfl)
    omega
  · intro hS
    have hn1 : t.length - 1 < (over (scores t)).length := by omega
    by_cases hz : ∀ j, j < t.length - 1 → overT (scores t) j ≠ 0
    · have := idx_first (fun x => decide (0 = x)) (over (scores t)) 0 (t.length - 1) hn1 (fun j hj => by
        rw [over_get]
        have := hz j hj
        simp; omega) (by rw [over_get, over_last ht]; rfl)
      rw [this]; omega
    · obtain ⟨j, hj⟩ := Classical.not_forall.1 hz
      obtain ⟨hj, h0⟩ := Classical.not_imp.1 hj
      have h0 := Classical.not_not.1 h0
      obtain ⟨X, Y, p1, p2, p3⟩ := (over_i ht (by omega)).2.1 h0
      have l3 := p1.length_eq
      simp only [List.length_append, List.length_range] at l3
      have hnd : (X ++ Y).Nodup := p1.symm.nodup List.nodup_range
      obtain ⟨a, ha⟩ := List.exists_mem_of_length_pos (l := X) (by omega)
      obtain ⟨b, hb⟩ := List.exists_mem_of_length_pos (l := Y) (by omega)
      have hlt : ∀ a ∈ X ++ Y, a < t.length := fun a ha => List.mem_range.1 (p1.mem_iff.1 ha)
      have hbX := hS (· ∈ X) (fun x y hx hy hxX hg => by
        have hyl : y ∈ X ++ Y := p1.mem_iff.2 (List.mem_range.2 hy)
        rcases List.mem_append.1 hyl with h | h
        · exact h
        · have := p3 x hxX y h; omega) a (hlt a (by simp [ha])) ha b (hlt b (by simp [hb]))
      exact absurd rfl ((List.nodup_append.1 hnd).2.2 b hbX b hb)

theorem tabF_get {w h : Nat} {g : Nat → Nat → Int} {a b : Nat} (ha : a < w) (hb : b < h) : g2 (tabF w h g) a b = g a b := by
  simp [g2, tabF, mapR, List.getD_eq_getElem?_getD, ha, hb]

theorem trT_g2 {t : List (List Int)} {a b : Nat} (ha : a < t.length) (hb : b < t.length) : g2 (trT t) a b = g2 t b a := tabF_get ha hb

theorem trT_len (t : List (List Int)) : (trT t).length = t.length := by simp [trT, tabF]

theorem trT_tour {t : List (List Int)} (ht : Tour t) : Tour (trT t) := by
  refine ⟨by rw [trT_len]; exact ht.1, ?_, ?_⟩
  · intro r hr
    rw [trT_len]
    simp only [trT, tabF, List.mem_map, List.mem_range] at hr
    obtain ⟨i, hi, rfl⟩ := hr
    refine ⟨by simp [mapR], fun x hx => ?_⟩
    simp only [mapR, List.mem_map, List.mem_range] at hx
    obtain ⟨k, hk, rfl⟩ := hx
    exact g2_01 ht hk hi
  · intro a b ha hb
    rw [trT_len] at ha hb
    have := ht.2.2 a b ha hb
    unfold tAt at this ⊢
    rw [trT_g2 ha hb, trT_g2 hb ha]
    by_cases h : a = b
    · subst h; simpa using this
    · simp only [h, if_false] at this ⊢; omega

theorem strong_turn {t u : List (List Int)} (hl : u.length = t.length) (hg : ∀ a b, a < t.length → b < t.length → g2 u a b = g2 t b a) (hS : Strong t) : Strong u := by
  intro P hP a ha hPa b hb
  refine Classical.byContradiction fun hPb => ?_
  rw [hl] at ha hb
  have := hS (fun x => ¬ P x) (fun x y hx hy hnx hgxy hPy => hnx (hP y x (by omega) (by omega) hPy (by rw [hg y x hy hx]; exact hgxy))) b hb hPb a ha
  exact this hPa

theorem strong_trT {t : List (List Int)} : Strong (trT t) ↔ Strong t := by
  constructor
  · intro h
    exact strong_turn (t := trT t) (u := t) (trT_len t).symm (fun a b ha hb => by rw [trT_len] at ha hb; rw [trT_g2 hb ha]) h
  · intro h
    exact strong_turn (trT_len t) (fun a b ha hb => trT_g2 ha hb) h

theorem scores_range {t : List (List Int)} (ht : Tour t) : ∀ x ∈ scores t, 0 ≤ x ∧ x ≤ ((scores t).length : Int) - 1 := by
  intro x hx
  rw [scores_len]
  rw [scores_map] at hx
  obtain ⟨a, ha, rfl⟩ := List.mem_map.1 hx
  have ha := List.mem_range.1 ha
  rw [scr_sum ht ha]
  have haa : g2 t a a = 0 := by have := ht.2.2 a a ha ha; simpa [tAt] using this
  have hp := List.perm_cons_erase (List.mem_range.2 ha)
  rw [sN_perm hp, sN_cons, haa]
  have h1 : ∀ b ∈ (List.range t.length).erase a, 0 ≤ g2 t a b ∧ g2 t a b ≤ 1 := fun b hb => g2_01 ht ha (List.mem_range.1 (List.mem_of_mem_erase hb))
  have h2 := sum01 (((List.range t.length).erase a).map (g2 t a)) (fun x hx => by obtain ⟨b, hb, rfl⟩ := List.mem_map.1 hx; exact h1 b hb)
  rw [List.length_map, List.length_erase_of_mem (List.mem_range.2 ha), List.length_range] at h2
  rw [sN]; omega

theorem scores_few {t : List (List Int)} (ht : Tour t) : Few (scores t) := by
  have h := scores_range ht
  have hl := ht.1
  have h2 := scores_len t
  exact ⟨by omega, fun x hx => by have := h x hx; omega⟩

/-- The law of strong tournaments. -/
theorem strongLaw {t : List (List Int)} (ht : Tour t) : lastOnly (scores t) = vS t ∧ isScr (scores t) = true ∧ lastOnly (scores (trT t)) = lastOnly (scores t) := by
  refine ⟨?_, isScr_tour ht, ?_⟩
  · rw [Bool.eq_iff_iff, lastOnly_iff ht, vS_true]
  · rw [Bool.eq_iff_iff, lastOnly_iff ht, lastOnly_iff (trT_tour ht), strong_trT]

end Go.Idl

namespace Go.Idl

open Go

@[simp] theorem oab_noLst (t : List (List Int)) : noLstLL (oab t) = true := by
  induction t with
  | nil => rfl
  | cons x xs ih =>
    simp only [oab, List.map_cons, noLstLL, noLstL, noLstV] at *
    rw [ih, ints_noLst]; rfl

theorem Tour.small {t : List (List Int)} (ht : Tour t) : Small2 t :=
  ⟨by have := ht.1; omega, fun r hr => ⟨by have := (ht.2.1 r hr).1; have := ht.1; omega, fun x hx => by have := (ht.2.1 r hr).2 x hx; omega⟩⟩

theorem ev_FnIsStrong (code : List Int) (c : Bool) (h : ∀ x ∈ code, 0 ≤ x ∧ x ≤ 255) :
    Ev tb l_laws_FnIsStrong [] [.lst 1 (bytes code) c] [] ⟨Bo true, [], [], []⟩ := by
  by_cases hc : (1048576 : Int) < code.length
  · refine call_of_wp tb_laws_FnIsStrong rfl ?_
    repeat (first | refine wp_as ?_ | refine wp_ss ?_ | refine wp_rs (by simp [hc]; with_reducible rfl) (by simp; with_reducible rfl) ?_ | refine wp_reg (by simp [hc]; with_reducible rfl) (by simp; with_reducible rfl) ?_ | (refine wp_ct (t := true) ?_ (fun _ => ?_) (fun hh => nomatch hh); focus (simp [hc]; done)) | (refine wp_ct (t := false) ?_ (fun hh => nomatch hh) (fun _ => ?_); focus (simp [hc]; done)) | (refine wp_c (t := true) ?_ (fun _ => ?_) (fun hh => nomatch hh); focus (simp [hc]; done)) | (refine wp_c (t := false) ?_ (fun hh => nomatch hh) (fun _ => ?_); focus (simp [hc]; done)) | refine wp_bs ?_ | refine wp_b ?_ | refine wp_sr ?_ | refine wp_sx ?_ | refine wp_ret' ?_ | refine wp_skip' ?_ | refine wp_exit' ?_)
    simp [if_laws_FnIsStrong]
  obtain ⟨t, hts, e1⟩ := ev_DrawIsStrong code c h (by omega)
  have hs := hts.small
  have hl := hts.1
  have v1 := ev_lim (ev_ValidTournament t false (by omega) (fun r hr => by have := (hs.2 r hr).1; omega))
  have hto : t.take t.length = t := List.take_of_length_le (by omega)
  by_cases ht : Tour t
  rotate_left
  · rw [vT_false.2 ht] at v1
    have e2 := ev_lim (ev_IsStrong_no t false ht hs)
    have e3 := ev_lim (ev_spec_IsStrong_no t false ht hs)
    refine call_of_wp tb_laws_FnIsStrong rfl ?_
    repeat (first | refine wp_as ?_ | refine wp_ss ?_ | refine wp_rs (by simp [hc, e1, e2, e3, v1, hto]; with_reducible rfl) (by simp; with_reducible rfl) ?_ | refine wp_reg (by simp [hc, e1, e2, e3, v1, hto]; with_reducible rfl) (by simp; with_reducible rfl) ?_ | (refine wp_ct (t := true) ?_ (fun _ => ?_) (fun hh => nomatch hh); focus (simp [hc, e1, e2, e3, v1, hto]; done)) | (refine wp_ct (t := false) ?_ (fun hh => nomatch hh) (fun _ => ?_); focus (simp [hc, e1, e2, e3, v1, hto]; done)) | (refine wp_c (t := true) ?_ (fun _ => ?_) (fun hh => nomatch hh); focus (simp [hc, e1, e2, e3, v1, hto]; done)) | (refine wp_c (t := false) ?_ (fun hh => nomatch hh) (fun _ => ?_); focus (simp [hc, e1, e2, e3, v1, hto]; done)) | refine wp_bs ?_ | refine wp_b ?_ | refine wp_sr ?_ | refine wp_sx ?_ | refine wp_ret' ?_ | refine wp_skip' ?_ | refine wp_exit' ?_)
    simp [if_laws_FnIsStrong]
  rw [vT_true.2 ht] at v1
  obtain ⟨l1, l2, l3⟩ := strongLaw ht
  have hsl := scores_len t
  have e2 := ev_lim (ev_IsStrong t false ht (scores_few ht))
  have e3 := ev_lim (ev_spec_IsStrong t false ht)
  have e4 := ev_lim (ev_ScoresOf t false ht)
  have e5 := ev_lim (ev_IsStrongScores (scores t) false (by omega) (scores_range ht))
  have e6 := ev_lim (ev_TransposeMatrix t false ht)
  have e7 := ev_lim (ev_IsStrong (trT t) false (trT_tour ht) (scores_few (trT_tour ht)))
  rw [l2, Bool.true_and] at e5
  rw [l3] at e7
  rw [← l1] at e3
  generalize lastOnly (scores t) = b at *
  cases b with
  | true =>
    refine call_of_wp tb_laws_FnIsStrong rfl ?_
    repeat (first | refine wp_as ?_ | refine wp_ss ?_ | refine wp_rs (by simp [hc, e1, e2, e3, e4, e5, e6, e7, v1, hto]; with_reducible rfl) (by simp; with_reducible rfl) ?_ | refine wp_reg (by simp [hc, e1, e2, e3, e4, e5, e6, e7, v1, hto]; with_reducible rfl) (by simp; with_reducible rfl) ?_ | (refine wp_ct (t := true) ?_ (fun _ => ?_) (fun hh => nomatch hh); focus (simp [hc, e1, e2, e3, e4, e5, e6, e7, v1, hto]; done)) | (refine wp_ct (t := false) ?_ (fun hh => nomatch hh) (fun _ => ?_); focus (simp [hc, e1, e2, e3, e4, e5, e6, e7, v1, hto]; done)) | (refine wp_c (t := true) ?_ (fun _ => ?_) (fun hh => nomatch hh); focus (simp [hc, e1, e2, e3, e4, e5, e6, e7, v1, hto]; done)) | (refine wp_c (t := false) ?_ (fun hh => nomatch hh) (fun _ => ?_); focus (simp [hc, e1, e2, e3, e4, e5, e6, e7, v1, hto]; done)) | refine wp_bs ?_ | refine wp_b ?_ | refine wp_sr ?_ | refine wp_sx ?_ | refine wp_ret' ?_ | refine wp_skip' ?_ | refine wp_exit' ?_)
    simp [if_laws_FnIsStrong]
  | false =>
    refine call_of_wp tb_laws_FnIsStrong rfl ?_
    repeat (first | refine wp_as ?_ | refine wp_ss ?_ | refine wp_rs (by simp [hc, e1, e2, e3, e4, e5, e6, e7, v1, hto]; with_reducible rfl) (by simp; with_reducible rfl) ?_ | refine wp_reg (by simp [hc, e1, e2, e3, e4, e5, e6, e7, v1, hto]; with_reducible rfl) (by simp; with_reducible rfl) ?_ | (refine wp_ct (t := true) ?_ (fun _ => ?_) (fun hh => nomatch hh); focus (simp [hc, e1, e2, e3, e4, e5, e6, e7, v1, hto]; done)) | (refine wp_ct (t := false) ?_ (fun hh => nomatch hh) (fun _ => ?_); focus (simp [hc, e1, e2, e3, e4, e5, e6, e7, v1, hto]; done)) | (refine wp_c (t := true) ?_ (fun _ => ?_) (fun hh => nomatch hh); focus (simp [hc, e1, e2, e3, e4, e5, e6, e7, v1, hto]; done)) | (refine wp_c (t := false) ?_ (fun hh => nomatch hh) (fun _ => ?_); focus (simp [hc, e1, e2, e3, e4, e5, e6, e7, v1, hto]; done)) | refine wp_bs ?_ | refine wp_b ?_ | refine wp_sr ?_ | refine wp_sx ?_ | refine wp_ret' ?_ | refine wp_skip' ?_ | refine wp_exit' ?_)
    simp [if_laws_FnIsStrong]

end Go.Idl

