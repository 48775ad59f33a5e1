/- Part 6 of a proof by an ideal interpreter of the code: its definitions and lemmas. Conditions: none. -/
import Derived.KernelRfl
import Derived.Test.YtppjfjleffabaaaA5
set_option linter.all false
set_option linter.unusedVariables false
set_option linter.unusedSimpArgs false
namespace Go.Idl

/-- A sum over a list. -/
def S {α : Type} (l : List α) (f : α → Int) : Int := (l.map f).sum

@[simp] theorem S_nil {α : Type} (f : α → Int) : S [] f = 0 := rfl

@[simp] theorem S_cons {α : Type} (a : α) (l : List α) (f : α → Int) : S (a :: l) f = f a + S l f := by simp [S]

theorem S_perm {α : Type} {l k : List α} (h : l.Perm k) (f : α → Int) : S l f = S k f := perm_sum (h.map f)

theorem S_add {α : Type} (l : List α) (f g : α → Int) : S l (fun a => f a + g a) = S l f + S l g := by
  induction l with
  | nil => rfl
  | cons a l ih => simp only [S_cons, ih]; omega

theorem S_sub {α : Type} (l : List α) (f g : α → Int) : S l (fun a => f a - g a) = S l f - S l g := by
  induction l with
  | nil => rfl
  | cons a l ih => simp only [S_cons, ih]; omega

theorem S_zero {α : Type} (l : List α) : S l (fun _ => 0) = 0 := by
  induction l with
  | nil => rfl
  | cons a l ih => simp [ih]

theorem S_const {α : Type} (l : List α) (c : Int) : S l (fun _ => c) = l.length * c := by
  induction l with
  | nil => simp
  | cons a l ih => rw [S_cons, ih, List.length_cons, Int.natCast_add, Int.add_mul]; simp; omega

theorem S_congr {α : Type} {l : List α} {f g : α → Int} (h : ∀ a ∈ l, f a = g a) : S l f = S l g := by
  induction l with
  | nil => rfl
  | cons a l ih => rw [S_cons, S_cons, h a (by simp), ih fun b hb => h b (by simp [hb])]

theorem S_le {α : Type} {l : List α} {f g : α → Int} (h : ∀ a ∈ l, f a ≤ g a) : S l f ≤ S l g := by
  induction l with
  | nil => simp
  | cons a l ih =>
    have h1 := h a (by simp)
    have h2 := ih fun b hb => h b (by simp [hb])
    simp only [S_cons]; omega

theorem S_swap {α β : Type} (l : List α) (k : List β) (f : α → β → Int) : S l (fun a => S k (f a)) = S k (fun b => S l (fun a => f a b)) := by
  induction l with
  | nil => simp [S_zero]
  | cons a l ih => simp only [S_cons, S_add, ih]

theorem S_mul {α : Type} (l : List α) (f : α → Int) (c : Int) : S l (fun a => c * f a) = c * S l f := by
  induction l with
  | nil => simp
  | cons a l ih => rw [S_cons, S_cons, ih, Int.mul_add]

theorem S_mulr {α : Type} (l : List α) (f : α → Int) (c : Int) : S l (fun a => f a * c) = S l f * c := by
  induction l with
  | nil => simp
  | cons a l ih => rw [S_cons, S_cons, ih, Int.add_mul]

theorem S_sublist {α : Type} {l k : List α} (h : l.Sublist k) {f : α → Int} (h0 : ∀ a ∈ k, 0 ≤ f a) : S l f ≤ S k f := by
  induction h with
  | slnil => simp
  | cons a _ ih =>
    have h1 := h0 a (by simp)
    have h2 := ih fun b hb => h0 b (by simp [hb])
    rw [S_cons]; omega
  | cons_cons a _ ih =>
    have h2 := ih fun b hb => h0 b (by simp [hb])
    rw [S_cons, S_cons]; omega

theorem S_nonneg {α : Type} {l : List α} {f : α → Int} (h : ∀ a ∈ l, 0 ≤ f a) : 0 ≤ S l f := by
  have := S_le (l := l) (f := fun _ => 0) h
  rwa [S_zero] at this

theorem S_map {α γ : Type} (l : List γ) (g : γ → α) (f : α → Int) : S (l.map g) f = S l (fun c => f (g c)) := by simp [S]; rfl

/-- A list like an image is an image of a list. -/
theorem perm_map_inv {α β : Type} {f : α → β} {ys zs : List β} (h : ys.Perm zs) : ∀ {l : List α}, zs = l.map f → ∃ l' : List α, l'.Perm l ∧ ys = l'.map f := by
  induction h with
  | nil => intro l hl; exact ⟨l, .refl _, hl⟩
  | cons x _ ih =>
    intro l hl
    cases l with
    | nil => simp at hl
    | cons a l =>
      simp only [List.map_cons, List.cons.injEq] at hl
      obtain ⟨l', h1, h2⟩ := ih hl.2
      exact ⟨a :: l', h1.cons a, by rw [List.map_cons, ← h2, hl.1]⟩
  | swap x y r =>
    intro l hl
    cases l with
    | nil => simp at hl
    | cons a l =>
      cases l with
      | nil => simp at hl
      | cons b l =>
        simp only [List.map_cons, List.cons.injEq] at hl
        exact ⟨b :: a :: l, .swap a b l, by simp [hl.1, hl.2.1, hl.2.2]⟩
  | trans _ _ ih1 ih2 =>
    intro l hl
    obtain ⟨l2, h1, h2⟩ := ih2 hl
    obtain ⟨l3, h3, h4⟩ := ih1 h2
    exact ⟨l3, h3.trans h1, h4⟩

/-- In a list without repetitions an element counts once. -/
theorem S_one {α : Type} [DecidableEq α] {l : List α} (h : l.Nodup) (x : α) : S l (fun a => if x = a then 1 else 0) = if x ∈ l then 1 else 0 := by
  induction l with
  | nil => simp
  | cons a l ih =>
    have h' := List.nodup_cons.1 h
    rw [S_cons, ih h'.2]
    by_cases hx : x = a
    · subst hx; simp [h'.1]
    · simp [hx]

/- Order of pairs. -/

theorem below_iff (a b : Int × Int) : below a b = true ↔ a.1 < b.1 ∨ (a.1 = b.1 ∧ a.2 < b.2) := by simp [below]

theorem below_trans {a b c : Int × Int} (h : below a b = true) (k : below b c = true) : below a c = true := by
  rw [below_iff] at *; omega

theorem below_ne {a b : Int × Int} (h : below a b = true) : a ≠ b := by
  rintro rfl; rw [below_iff] at h; omega

abbrev PW (es : List (Int × Int)) : Prop := es.Pairwise fun a b => below a b = true

theorem vEs_pw (n : Int) : ∀ (p : Option (Int × Int)) (es : List (Int × Int)), vEs n p es = true → PW es ∧ (∀ q, p = some q → ∀ e ∈ es, below q e = true)
  | p, [], _ => ⟨.nil, by simp⟩
  | none, e :: r, h => by
    simp only [vEs, Bool.and_eq_true] at h
    obtain ⟨h1, h2⟩ := vEs_pw n (some e) r h.2
    exact ⟨List.pairwise_cons.2 ⟨h2 e rfl, h1⟩, by simp⟩
  | some q, e :: r, h => by
    simp only [vEs, Bool.and_eq_true] at h
    obtain ⟨h1, h2⟩ := vEs_pw n (some e) r h.2.2
    refine ⟨List.pairwise_cons.2 ⟨h2 e rfl, h1⟩, fun q' hq' x hx => ?_⟩
    cases hq'
    rcases List.mem_cons.1 hx with rfl | hx
    · exact h.2.1
    · exact below_trans h.2.1 (h2 e rfl x hx)

theorem pw_vEs (n : Int) : ∀ (p : Option (Int × Int)) (es : List (Int × Int)), PW es → (∀ q, p = some q → ∀ e ∈ es, below q e = true) → (∀ e ∈ es, okE n e = true) → vEs n p es = true
  | p, [], _, _, _ => by cases p <;> rfl
  | none, e :: r, h, _, ho => by
    have h' := List.pairwise_cons.1 h
    simp only [vEs, Bool.and_eq_true]
    exact ⟨ho e (by simp), pw_vEs n (some e) r h'.2 (fun q hq x hx => by cases hq; exact h'.1 x hx) fun x hx => ho x (by simp [hx])⟩
  | some q, e :: r, h, hq, ho => by
    have h' := List.pairwise_cons.1 h
    simp only [vEs, Bool.and_eq_true]
    exact ⟨ho e (by simp), hq q rfl e (by simp), pw_vEs n (some e) r h'.2 (fun q hq x hx => by cases hq; exact h'.1 x hx) fun x hx => ho x (by simp [hx])⟩

theorem row_mem_iff (a : Nat) : ∀ (m b : Nat) (e : Int × Int), e ∈ row a b m ↔ e.1 = a ∧ (b : Int) ≤ e.2 ∧ e.2 < b + m
  | 0, b, e => by simp [row] <;> omega
  | m + 1, b, e => by
    rw [row, List.mem_cons, row_mem_iff a m (b + 1) e]
    constructor
    · rintro (rfl | h)
      · simp; omega
      · omega
    · intro h
      by_cases h2 : e.2 = b
      · exact .inl (Prod.ext h.1 h2)
      · exact .inr (by omega)

theorem prsF_mem_iff : ∀ (m a : Nat) (e : Int × Int), e ∈ prsF a m ↔ (a : Int) ≤ e.1 ∧ e.1 < e.2 ∧ e.2 < a + m
  | 0, a, e => by simp [prsF]; omega
  | m + 1, a, e => by
    rw [prsF, List.mem_append, row_mem_iff, prsF_mem_iff m (a + 1) e]
    omega

theorem mem_prs {n : Nat} {e : Int × Int} : e ∈ prs n ↔ 0 ≤ e.1 ∧ e.1 < e.2 ∧ e.2 < n := by
  rw [prs, prsF_mem_iff]; omega

theorem row_pw (a : Nat) : ∀ (m b : Nat), PW (row a b m)
  | 0, b => .nil
  | m + 1, b => by
    rw [row]
    refine List.pairwise_cons.2 ⟨fun e he => ?_, row_pw a m (b + 1)⟩
    rw [row_mem_iff] at he
    rw [below_iff]; simp only; omega

theorem prsF_pw : ∀ (m a : Nat), PW (prsF a m)
  | 0, a => .nil
  | m + 1, a => by
    rw [prsF]
    refine List.pairwise_append.2 ⟨row_pw a m (a + 1), prsF_pw m (a + 1), fun x hx y hy => ?_⟩
    rw [row_mem_iff] at hx
    rw [prsF_mem_iff] at hy
    rw [below_iff]; omega

theorem prs_pw (n : Nat) : PW (prs n) := prsF_pw n 0

theorem pw_nodup {es : List (Int × Int)} (h : PW es) : es.Nodup := h.imp fun h => below_ne h

theorem pw_ext {xs ys : List (Int × Int)} (hx : PW xs) (hy : PW ys) (h : ∀ e, e ∈ xs ↔ e ∈ ys) : xs = ys := by
  refine List.Perm.eq_of_pairwise (le := fun a b => below a b = true) (fun a b _ _ h1 h2 => absurd (below_trans h1 h2) (fun h => below_ne h rfl)) hx hy ?_
  exact (List.perm_ext_iff_of_nodup (pw_nodup hx) (pw_nodup hy)).2 h

theorem vG_iff {n : Nat} {es : List (Int × Int)} : vGraph n es = true ↔ PW es ∧ (∀ e ∈ es, e ∈ prs n) ∧ n ≤ 7 := by
  constructor
  · intro h
    have h1 := vG_n h
    have h2 := vG_edges h
    simp only [vGraph, Bool.and_eq_true] at h
    exact ⟨(vEs_pw n none es h.1).1, fun e he => mem_prs.2 (h2 e he), by omega⟩
  · rintro ⟨h1, h2, h3⟩
    simp only [vGraph, Bool.and_eq_true, decide_eq_true_eq]
    refine ⟨pw_vEs n none es h1 (by simp) fun e he => ?_, by omega, by omega⟩
    have := mem_prs.1 (h2 e he)
    simp only [okE, Bool.and_eq_true, decide_eq_true_eq]; omega

theorem filter_vG {n : Nat} (hn : n ≤ 7) (p : Int × Int → Bool) : vGraph n ((prs n).filter p) = true :=
  vG_iff.2 ⟨(prs_pw n).filter _, fun e he => (List.mem_filter.1 he).1, hn⟩

theorem vG_filter {n : Nat} {es : List (Int × Int)} (h : vGraph n es = true) : es = (prs n).filter fun e => decide (e ∈ es) := by
  obtain ⟨h1, h2, h3⟩ := vG_iff.1 h
  refine pw_ext h1 ((prs_pw n).filter _) fun e => ?_
  rw [List.mem_filter, decide_eq_true_eq]
  exact ⟨fun he => ⟨h2 e he, he⟩, fun he => he.2⟩

theorem vG_sub {n : Nat} {es : List (Int × Int)} (h : vGraph n es = true) : es.Sublist (prs n) := by
  rw [vG_filter h]; exact List.filter_sublist

/-- How often a pair touches a vertex. -/
def inc (v : Nat) (e : Int × Int) : Int := (if e.1 = v then 1 else 0) + (if e.2 = v then 1 else 0)

def deg (es : List (Int × Int)) (v : Nat) : Int := S es (inc v)

theorem bump_get {o : List Int} {i v : Nat} (hv : v < o.length) : (bump o i).getD v 0 = o.getD v 0 + (if i = v then 1 else 0) := by
  rw [bump, List.getD_eq_getElem?_getD, List.getElem?_set]
  by_cases h : i = v
  · subst h; simp [hv, List.getD_eq_getElem?_getD]
  · simp [h, List.getD_eq_getElem?_getD]

theorem dfold_get {n : Nat} : ∀ (es : List (Int × Int)) (o : List Int), (∀ e ∈ es, 0 ≤ e.1 ∧ 0 ≤ e.2) → ∀ v, v < o.length → (dfold o es).getD v 0 = o.getD v 0 + deg es v
  | [], o, _, v, _ => by simp [dfold, deg]
  | e :: es, o, h, v, hv => by
    have h1 := h e (by simp)
    have := dfold_get (n := n) es (bump (bump o e.1.toNat) e.2.toNat) (fun x hx => h x (by simp [hx])) v (by simp [bump_len]; exact hv)
    rw [show dfold o (e :: es) = dfold (bump (bump o e.1.toNat) e.2.toNat) es from rfl, this, bump_get (by rw [bump_len]; exact hv), bump_get hv, deg, deg, S_cons]
    have c1 : (e.1.toNat = v) = (e.1 = (v : Int)) := by rw [eq_iff_iff]; omega
    have c2 : (e.2.toNat = v) = (e.2 = (v : Int)) := by rw [eq_iff_iff]; omega
    simp only [inc, c1, c2]
    omega

theorem degs_eq {n : Nat} {es : List (Int × Int)} (h : EdgesIn n es) : degs n es = (List.range n).map (deg es) := by
  have hl : (degs n es).length = n := by rw [degs, dfold_len]; simp
  refine List.ext_getElem (by simp [hl]) fun v h1 h2 => ?_
  have := dfold_get (n := n) es (List.replicate n 0) (fun e he => by have := h e he; omega) v (by simp; omega)
  rw [← degs, List.getD_eq_getElem?_getD, List.getElem?_eq_getElem h1] at this
  simp only [Option.getD_some] at this
  rw [this]
  simp [List.getD_eq_getElem?_getD]
  rw [List.getElem?_eq_getElem (by simp; omega)]; simp

theorem S_inc {n : Nat} {e : Int × Int} (h : e ∈ prs n) {l : List Nat} (hl : l.Perm (List.range n)) : S l (fun v => inc v e) = 2 := by
  have h0 := mem_prs.1 h
  have key : ∀ x : Int, 0 ≤ x → x < n → S l (fun v => if x = (v : Int) then 1 else 0) = 1 := by
    intro x hx hxn
    obtain ⟨k, rfl⟩ := Int.eq_ofNat_of_zero_le hx
    have : ∀ v ∈ l, (if (k : Int) = (v : Int) then (1 : Int) else 0) = if k = v then 1 else 0 := fun v _ => by simp only [Int.ofNat_inj]
    rw [S_congr this, S_one (hl.nodup_iff.2 List.nodup_range), if_pos (hl.mem_iff.2 (List.mem_range.2 (by omega)))]
  simp only [inc]
  rw [S_add, key _ (by omega) (by omega), key _ (by omega) (by omega)]
  rfl

theorem degs_sum {n : Nat} {es : List (Int × Int)} (h : ∀ e ∈ es, e ∈ prs n) : (degs n es).sum = 2 * es.length := by
  rw [degs_eq fun e he => by have := mem_prs.1 (h e he); omega]
  show S (List.range n) (fun v => S es (fun e => inc v e)) = _
  rw [S_swap, S_congr (g := fun _ => 2) fun e he => S_inc (h e he) (.refl _), S_const]
  omega

theorem deg_prs_all : (List.range 8).all (fun n => (List.range n).all fun v => decide (deg (prs n) v = (n : Int) - 1)) = true := by decide +kernel

theorem deg_prs {n v : Nat} (hn : n ≤ 7) (hv : v < n) : deg (prs n) v = (n : Int) - 1 := by
  have := List.all_eq_true.1 (List.all_eq_true.1 deg_prs_all n (List.mem_range.2 (by omega))) v (List.mem_range.2 hv)
  exact of_decide_eq_true this

/-- One at a pair that joins a to b. -/
def adj (e : Int × Int) (a b : Nat) : Int := (if e.1 = a then 1 else 0) * (if e.2 = b then 1 else 0) + (if e.2 = a then 1 else 0) * (if e.1 = b then 1 else 0)

theorem adj_all : (List.range 8).all (fun n => (List.range n).all fun a => (List.range n).all fun b => decide (S (prs n) (fun e => adj e a b) = if a = b then 0 else 1)) = true := by decide +kernel

theorem adj_prs {n a b : Nat} (hn : n ≤ 7) (ha : a < n) (hb : b < n) : S (prs n) (fun e => adj e a b) = if a = b then 0 else 1 := by
  have := List.all_eq_true.1 (List.all_eq_true.1 (List.all_eq_true.1 adj_all n (List.mem_range.2 (by omega))) a (List.mem_range.2 ha)) b (List.mem_range.2 hb)
  exact of_decide_eq_true this

theorem ind01 {l : List Nat} (h : l.Nodup) (x : Int) : S l (fun v => if x = (v : Int) then 1 else 0) = 0 ∨ S l (fun v => if x = (v : Int) then 1 else 0) = 1 := by
  by_cases hx : 0 ≤ x
  · obtain ⟨k, rfl⟩ := Int.eq_ofNat_of_zero_le hx
    have : ∀ v ∈ l, (if (k : Int) = (v : Int) then (1 : Int) else 0) = if k = v then 1 else 0 := fun v _ => by simp only [Int.ofNat_inj]
    rw [S_congr this, S_one h]
    split
    · exact .inr rfl
    · exact .inl rfl
  · refine .inl ?_
    rw [S_congr (g := fun _ => 0) fun v _ => if_neg (by omega), S_zero]

theorem two_sets {n k m : Nat} {es : List (Int × Int)} (h : vGraph n es = true) {π : List Nat} (hπ : π.Perm (List.range n)) (hkm : k ≤ m) (hm : m ≤ n) :
    S (π.take k) (deg es) + S (π.take m) (deg es) ≤ (k : Int) * ((m : Int) - 1) + S π (deg es) := by
  have hn := (vG_iff.1 h).2.2
  have hin := (vG_iff.1 h).2.1
  have hnd : π.Nodup := hπ.nodup_iff.2 List.nodup_range
  have hπl : π.length = n := by rw [hπ.length_eq, List.length_range]
  have hlt : ∀ v ∈ π, v < n := fun v hv => List.mem_range.1 (hπ.mem_iff.1 hv)
  obtain ⟨A, hA⟩ : ∃ A, A = π.take k := ⟨_, rfl⟩
  obtain ⟨B, hB⟩ : ∃ B, B = π.take m := ⟨_, rfl⟩
  have hAB : A.Sublist B := by
    rw [hA, hB, show π.take k = (π.take m).take k by rw [List.take_take, Nat.min_eq_left hkm]]
    exact List.take_sublist _ _
  have hBn : B.Nodup := by rw [hB]; exact hnd.sublist (List.take_sublist _ _)
  have hAn : A.Nodup := hBn.sublist hAB
  have hBl : B.length = m := by rw [hB, List.length_take]; omega
  have hAl : A.length = k := by rw [hA, List.length_take]; omega
  have hBm : ∀ v ∈ B, v < n := fun v hv => hlt v (by rw [hB] at hv; exact List.mem_of_mem_take hv)
  rw [← hA, ← hB]
  have sw : ∀ l : List Nat, S l (deg es) = S es (fun e => S l (fun v => inc v e)) := fun l => S_swap l es fun v e => inc v e
  have hw : S es (fun e => S A (fun a => S B (fun b => adj e a b))) ≤ (k : Int) * ((m : Int) - 1) := by
    refine Int.le_trans (S_sublist (vG_sub h) (f := fun e => S A (fun a => S B (fun b => adj e a b))) fun e _ => S_nonneg fun a _ => S_nonneg fun b _ => ?_) ?_
    · simp only [adj]
      split <;> split <;> split <;> split <;> decide
    · rw [S_swap]
      have : ∀ a ∈ A, S (prs n) (fun e => S B (fun b => adj e a b)) = (m : Int) - 1 := fun a ha => by
        have ha' := hAB.mem ha
        rw [S_swap, S_congr (g := fun b => 1 - (if a = b then 1 else 0)) fun b hb => by
          rw [adj_prs hn (hBm a ha') (hBm b hb)]; split <;> rfl]
        rw [S_sub, S_const, S_one hBn, if_pos ha', hBl]; omega
      rw [S_congr this, S_const, hAl]
      exact Int.le_refl _
  have he : ∀ e ∈ es, S A (fun v => inc v e) + S B (fun v => inc v e) - 2 ≤ S A (fun a => S B (fun b => adj e a b)) := fun e he => by
    have hwe : S A (fun a => S B (fun b => adj e a b)) = S A (fun v => if e.1 = (v : Int) then 1 else 0) * S B (fun v => if e.2 = (v : Int) then 1 else 0) + S A (fun v => if e.2 = (v : Int) then 1 else 0) * S B (fun v => if e.1 = (v : Int) then 1 else 0) := by
      rw [← S_mulr, ← S_mulr, ← S_add]
      refine S_congr fun a _ => ?_
      rw [← S_mul, ← S_mul, ← S_add]
      rfl
    rw [hwe]
    simp only [inc]
    rw [S_add, S_add]
    have m1 : S A (fun v => if e.1 = (v : Int) then 1 else 0) ≤ S B (fun v => if e.1 = (v : Int) then 1 else 0) := S_sublist hAB fun v _ => by split <;> decide
    have m2 : S A (fun v => if e.2 = (v : Int) then 1 else 0) ≤ S B (fun v => if e.2 = (v : Int) then 1 else 0) := S_sublist hAB fun v _ => by split <;> decide
    rcases ind01 hAn e.1 with h1 | h1 <;> rcases ind01 hAn e.2 with h2 | h2 <;> rcases ind01 hBn e.1 with h3 | h3 <;> rcases ind01 hBn e.2 with h4 | h4 <;> rw [h1, h3] at m1 <;> rw [h2, h4] at m2 <;> rw [h1, h2, h3, h4] <;> omega
  have hs := S_le he
  rw [S_sub, S_add, S_const] at hs
  have h2 : S π (deg es) = es.length * 2 := by
    rw [sw, S_congr (g := fun _ => 2) fun e he => S_inc (hin e he) hπ, S_const]
  rw [sw A, sw B, h2]
  omega

theorem degs_valid {n : Nat} {es : List (Int × Int)} (h : vGraph n es = true) : valid (degs n es) = true := by
  obtain ⟨h1, h2, hn⟩ := vG_iff.1 h
  have hE : EdgesIn n es := fun e he => by have := mem_prs.1 (h2 e he); omega
  rw [degs_eq hE]
  simp only [valid, Bool.and_eq_true, decide_eq_true_eq, List.all_eq_true, List.length_map, List.length_range]
  refine ⟨hn, fun x hx => ?_⟩
  obtain ⟨v, hv, rfl⟩ := List.mem_map.1 hx
  have hv := List.mem_range.1 hv
  have hi : ∀ e : Int × Int, 0 ≤ inc v e := fun e => by simp only [inc]; split <;> split <;> decide
  have h3 : deg es v ≤ deg (prs n) v := S_sublist (vG_sub h) fun e _ => hi e
  have h4 : 0 ≤ deg es v := S_nonneg fun e _ => hi e
  have := deg_prs hn hv
  omega

theorem degs_graphic {n : Nat} {es : List (Int × Int)} (h : vGraph n es = true) : graphic (degs n es) = true := by
  obtain ⟨h1, h2, hn⟩ := vG_iff.1 h
  have hE : EdgesIn n es := fun e he => by have := mem_prs.1 (h2 e he); omega
  have hs := degs_sum h2
  have hde := degs_eq hE
  obtain ⟨π, hπ, hfp⟩ := perm_map_inv (f := deg es) (fall_perm (degs n es)) (l := List.range n) hde
  refine (graphic_iff _).2 ⟨degs_valid h, by omega, fun k m hk hkm hm => ?_⟩
  rw [show (degs n es).length = n by rw [hde]; simp] at hm
  have := two_sets h hπ hkm hm
  have hsum : (degs n es).sum = S π (deg es) := by rw [hde]; exact S_perm hπ.symm _
  simp only [tops, hfp, hsum]
  rw [← List.map_take, ← List.map_take]
  exact this

end Go.Idl

namespace Go.Idl

open Go

def capsW : List IV := [.bptr 1 1 0, .bptr 1 3 0, .bptr 1 2 0, .bptr 1 0 0, .bptr 1 4 0, .bptr 1 5 0]

/-- The boxes of the search. -/
def boxW (n : Int) (e0 : Nat) (from_ : List (Int × Int)) (c : Bool) (F : Lab) (caps : List IV) (left : List Int) (ch : IV) : Boxes :=
  [[I n], [.lst e0 (eds from_) c], [.fn F caps], [O left], [ch], [.fn l_impl_subgraphs_F1 capsW]]

/-- What a function that is called with the graphs does to the boxes below. -/
def CallsBack (n : Int) (F : Lab) (caps : List IV) (more : List (Int × Int) → Bool) (P : List (List (Int × Int)) → Boxes → Prop) : Prop :=
  ∀ gl bs es, P gl bs → gl.length ≤ 10000000 → es.length ≤ 1000 → ∃ bs', P (gl ++ [es]) bs' ∧ ∀ B Es, Ev tb F [] (.agg [I n, O2 es] :: caps) (bs :: B :: Es) ⟨Bo (more es), [], bs' :: B :: Es, []⟩

theorem sg_end (n : Int) (e0 : Nat) (from_ : List (Int × Int)) (c : Bool) (F : Lab) (caps : List IV) (more : List (Int × Int) → Bool) (P : List (List (Int × Int)) → Boxes → Prop) (hcb : CallsBack n F caps more P) (N : Nat)
    (hN : N ≤ 1000) (hfl : from_.length ≤ 900) (left : List Int) (ch : IV) (chosen : List (Int × Int)) (gl : List (List (Int × Int))) (bs : Boxes) (Es : List Boxes) (hP : P gl bs) (hgl : gl.length ≤ 10000000) (hch : EdRep ch chosen)
    (hl : left.length = N) (hcl : chosen.length ≤ 950) :
    ∃ ch' bs', EdRep ch' chosen ∧ P (gl ++ (upTo more (subs [] left chosen)).1) bs' ∧
      Ev tb l_impl_subgraphs_F1 [] (I from_.length :: capsW) (bs :: boxW n e0 from_ c F caps left ch :: Es) ⟨Bo (upTo more (subs [] left chosen)).2, [], bs' :: boxW n e0 from_ c F caps left ch' :: Es, []⟩ := by
  have e1 := fun cc => ev_lim (ev_allIn left cc 0 0 (by omega))
  have hz0 : (left.all fun x => decide (0 ≤ x) && decide (x ≤ 0)) = left.all fun x => decide (x = 0) := by
    congr 1; funext x; rw [Bool.eq_iff_iff]; simp; omega
  rw [hz0] at e1
  have hlt : left.take N = left := List.take_of_length_le (by omega)
  unfold subs
  cases hz : left.all (fun x => decide (x = 0)) with
  | false =>
    rw [hz] at e1
    simp only [Bool.false_eq_true, if_false]
    refine ⟨ch, bs, hch, by simpa [upTo] using hP, ?_⟩
    simp only [upTo, boxW, capsW]
    refine call_of_wp tb_impl_subgraphs_F1 rfl ?_
    repeat (first | refine wp_as ?_ | refine wp_ss ?_ | refine wp_rs (by simp [e1, hl, hlt]; with_reducible rfl) (by simp; with_reducible rfl) ?_ | refine wp_reg (by simp [e1, hl, hlt]; with_reducible rfl) (by simp; with_reducible rfl) ?_ | (refine wp_ct (t := true) ?_ (fun _ => ?_) (fun hh => nomatch hh); focus (simp [e1, hl, hlt]; done)) | (refine wp_ct (t := false) ?_ (fun hh => nomatch hh) (fun _ => ?_); focus (simp [e1, hl, hlt]; done)) | (refine wp_c (t := true) ?_ (fun _ => ?_) (fun hh => nomatch hh); focus (simp [e1, hl, hlt]; done)) | (refine wp_c (t := false) ?_ (fun hh => nomatch hh) (fun _ => ?_); focus (simp [e1, hl, hlt]; done)) | refine wp_bs ?_ | refine wp_b ?_ | refine wp_sr ?_ | refine wp_sx ?_ | refine wp_ret' ?_ | refine wp_skip' ?_ | refine wp_exit' ?_)
    refine wp_ra (by simp [e1, hl, hlt]; with_reducible rfl) (by simp; with_reducible rfl) ?_ ?_
    · intro p hp
      simp only [List.mem_cons, List.not_mem_nil, or_false] at hp
      rcases hp with rfl | rfl | rfl | rfl | rfl
      · exact ⟨_, by simp [e1, hl, hlt]; with_reducible rfl, by simp⟩
      · exact ⟨_, by simp [e1, hl, hlt]; with_reducible rfl, by simp⟩
      · exact ⟨_, by simp [e1, hl, hlt]; with_reducible rfl, by simp⟩
      · exact ⟨_, by simp [e1, hl, hlt]; with_reducible rfl, by simp⟩
      · exact ⟨_, by simp [e1, hl, hlt]; with_reducible rfl, by simp⟩
    repeat (first | refine wp_as ?_ | refine wp_ss ?_ | refine wp_rs (by simp; with_reducible rfl) (by simp; with_reducible rfl) ?_ | refine wp_reg (by simp; with_reducible rfl) (by simp; with_reducible rfl) ?_ | (refine wp_ct (t := true) ?_ (fun _ => ?_) (fun hh => nomatch hh); focus (simp; done)) | (refine wp_ct (t := false) ?_ (fun hh => nomatch hh) (fun _ => ?_); focus (simp; done)) | (refine wp_c (t := true) ?_ (fun _ => ?_) (fun hh => nomatch hh); focus (simp; done)) | (refine wp_c (t := false) ?_ (fun hh => nomatch hh) (fun _ => ?_); focus (simp; done)) | refine wp_bs ?_ | refine wp_b ?_ | refine wp_sr ?_ | refine wp_sx ?_ | refine wp_ret' ?_ | refine wp_skip' ?_ | refine wp_exit' ?_)
    simp [if_impl_subgraphs_F1]
  | true =>
    rw [hz] at e1
    obtain ⟨bs', hP', hF⟩ := hcb gl bs chosen hP hgl (by omega)
    simp only [if_true]
    have hu : upTo more [chosen] = ([chosen], more chosen) := by simp only [upTo]; cases more chosen <;> rfl
    rw [hu]
    refine ⟨ch, bs', hch, hP', ?_⟩
    have e2 := fun B Es => ev_lim (hF B Es)
    have hct : chosen.take chosen.length = chosen := List.take_of_length_le (Nat.le_refl _)
    generalize more chosen = b at *
    rcases hch with rfl | ⟨rfl, rfl⟩
    · have e3 := fun cc => ev_lim (ev_clone2 2 chosen cc (.inl rfl) (by omega))
      simp only [boxW, capsW] at e2 ⊢
      refine call_of_wp tb_impl_subgraphs_F1 rfl ?_
      repeat (first | refine wp_as ?_ | refine wp_ss ?_ | refine wp_rs (by simp [e1, hl, hlt]; with_reducible rfl) (by simp; with_reducible rfl) ?_ | refine wp_reg (by simp [e1, hl, hlt]; with_reducible rfl) (by simp; with_reducible rfl) ?_ | (refine wp_ct (t := true) ?_ (fun _ => ?_) (fun hh => nomatch hh); focus (simp [e1, hl, hlt]; done)) | (refine wp_ct (t := false) ?_ (fun hh => nomatch hh) (fun _ => ?_); focus (simp [e1, hl, hlt]; done)) | (refine wp_c (t := true) ?_ (fun _ => ?_) (fun hh => nomatch hh); focus (simp [e1, hl, hlt]; done)) | (refine wp_c (t := false) ?_ (fun hh => nomatch hh) (fun _ => ?_); focus (simp [e1, hl, hlt]; done)) | refine wp_bs ?_ | refine wp_b ?_ | refine wp_sr ?_ | refine wp_sx ?_ | refine wp_ret' ?_ | refine wp_skip' ?_ | refine wp_exit' ?_)
      refine wp_ra (by simp [e1, e2, e3, hl, hlt, hct]; with_reducible rfl) (by simp; with_reducible rfl) ?_ ?_
      · intro p hp
        simp only [List.mem_cons, List.not_mem_nil, or_false] at hp
        rcases hp with rfl | rfl | rfl | rfl | rfl
        · exact ⟨_, by simp [e1, e2, e3, hl, hlt, hct]; with_reducible rfl, by simp⟩
        · exact ⟨_, by simp [e1, e2, e3, hl, hlt, hct]; with_reducible rfl, by simp⟩
        · exact ⟨_, by simp [e1, e2, e3, hl, hlt, hct]; with_reducible rfl, by simp⟩
        · exact ⟨_, by simp [e1, e2, e3, hl, hlt, hct]; with_reducible rfl, by simp⟩
        · exact ⟨_, by simp [e1, e2, e3, hl, hlt, hct]; with_reducible rfl, by simp⟩
      repeat (first | refine wp_as ?_ | refine wp_ss ?_ | refine wp_rs (by simp; with_reducible rfl) (by simp; with_reducible rfl) ?_ | refine wp_reg (by simp; with_reducible rfl) (by simp; with_reducible rfl) ?_ | (refine wp_ct (t := true) ?_ (fun _ => ?_) (fun hh => nomatch hh); focus (simp; done)) | (refine wp_ct (t := false) ?_ (fun hh => nomatch hh) (fun _ => ?_); focus (simp; done)) | (refine wp_c (t := true) ?_ (fun _ => ?_) (fun hh => nomatch hh); focus (simp; done)) | (refine wp_c (t := false) ?_ (fun hh => nomatch hh) (fun _ => ?_); focus (simp; done)) | refine wp_bs ?_ | refine wp_b ?_ | refine wp_sr ?_ | refine wp_sx ?_ | refine wp_ret' ?_ | refine wp_skip' ?_ | refine wp_exit' ?_)
      simp [if_impl_subgraphs_F1]
    · have e3 := ev_lim (show Ev tb l_impl_clone_impl_Edge_ [] [Z] [] ⟨O2 [], [], [], []⟩ from ev_clone2 0 [] true (.inr rfl) (by simp))
      simp only [boxW, capsW] at e2 ⊢
      refine call_of_wp tb_impl_subgraphs_F1 rfl ?_
      repeat (first | refine wp_as ?_ | refine wp_ss ?_ | refine wp_rs (by simp [e1, hl, hlt]; with_reducible rfl) (by simp; with_reducible rfl) ?_ | refine wp_reg (by simp [e1, hl, hlt]; with_reducible rfl) (by simp; with_reducible rfl) ?_ | (refine wp_ct (t := true) ?_ (fun _ => ?_) (fun hh => nomatch hh); focus (simp [e1, hl, hlt]; done)) | (refine wp_ct (t := false) ?_ (fun hh => nomatch hh) (fun _ => ?_); focus (simp [e1, hl, hlt]; done)) | (refine wp_c (t := true) ?_ (fun _ => ?_) (fun hh => nomatch hh); focus (simp [e1, hl, hlt]; done)) | (refine wp_c (t := false) ?_ (fun hh => nomatch hh) (fun _ => ?_); focus (simp [e1, hl, hlt]; done)) | refine wp_bs ?_ | refine wp_b ?_ | refine wp_sr ?_ | refine wp_sx ?_ | refine wp_ret' ?_ | refine wp_skip' ?_ | refine wp_exit' ?_)
      refine wp_ra (by simp [e1, e2, e3, hl, hlt, hct]; with_reducible rfl) (by simp; with_reducible rfl) ?_ ?_
      · intro p hp
        simp only [List.mem_cons, List.not_mem_nil, or_false] at hp
        rcases hp with rfl | rfl | rfl | rfl | rfl
        · exact ⟨_, by simp [e1, e2, e3, hl, hlt, hct]; with_reducible rfl, by simp⟩
        · exact ⟨_, by simp [e1, e2, e3, hl, hlt, hct]; with_reducible rfl, by simp⟩
        · exact ⟨_, by simp [e1, e2, e3, hl, hlt, hct]; with_reducible rfl, by simp⟩
        · exact ⟨_, by simp [e1, e2, e3, hl, hlt, hct]; with_reducible rfl, by simp⟩
        · exact ⟨_, by simp [e1, e2, e3, hl, hlt, hct]; with_reducible rfl, by simp⟩
      repeat (first | refine wp_as ?_ | refine wp_ss ?_ | refine wp_rs (by simp; with_reducible rfl) (by simp; with_reducible rfl) ?_ | refine wp_reg (by simp; with_reducible rfl) (by simp; with_reducible rfl) ?_ | (refine wp_ct (t := true) ?_ (fun _ => ?_) (fun hh => nomatch hh); focus (simp; done)) | (refine wp_ct (t := false) ?_ (fun hh => nomatch hh) (fun _ => ?_); focus (simp; done)) | (refine wp_c (t := true) ?_ (fun _ => ?_) (fun hh => nomatch hh); focus (simp; done)) | (refine wp_c (t := false) ?_ (fun hh => nomatch hh) (fun _ => ?_); focus (simp; done)) | refine wp_bs ?_ | refine wp_b ?_ | refine wp_sr ?_ | refine wp_sx ?_ | refine wp_ret' ?_ | refine wp_skip' ?_ | refine wp_exit' ?_)
      simp [if_impl_subgraphs_F1]

end Go.Idl

namespace Go.Idl

open Go

theorem sg_skip (n : Int) (from_ : List (Int × Int)) (c : Bool) (F : Lab) (caps : List IV) (i p q N : Nat) (hi2 : i < from_.length) (hfl : from_.length ≤ 900) (hp : from_[i].1 = p) (hq : from_[i].2 = q) (left : List Int) (hl : left.length = N) (hpN : p < N) (hqN : q < N)
    (hpos : ¬ (0 < left[p] ∧ 0 < left[q])) (ch ch' : IV) (bs bs' : Boxes) (Es : List Boxes) (b : Bool)
    (e1 : Ev tb l_impl_subgraphs_F1 [] (I ((i + 1 : Nat) : Int) :: capsW) (bs :: boxW n 2 from_ c F caps left ch :: (Es ++ [[[I p, I q]]])) ⟨Bo b, [], bs' :: boxW n 2 from_ c F caps left ch' :: (Es ++ [[[I p, I q]]]), []⟩) :
    Ev tb l_impl_subgraphs_F1 [] (I i :: capsW) (bs :: boxW n 2 from_ c F caps left ch :: Es) ⟨Bo b, [], bs' :: boxW n 2 from_ c F caps left ch' :: Es, []⟩ := by
  have hpl : p < left.length := by omega
  have hql : q < left.length := by omega
  have hie : ¬ (i : Int) = from_.length := by omega
  have w2 : IntKind.i64.wrap ((i : Int) + 1) = (i : Int) + 1 := wrap64 (by omega) (by omega)
  have e1 := ev_lim e1
  rw [show ((i + 1 : Nat) : Int) = (i : Int) + 1 by omega] at e1
  simp only [boxW, capsW] at e1 ⊢
  by_cases hp0 : 0 < left[p]
  · have hq0 : ¬ 0 < left[q] := fun h => hpos ⟨hp0, h⟩
    refine call_of_wp tb_impl_subgraphs_F1 rfl ?_
    repeat (first | refine wp_as ?_ | refine wp_ss ?_ | refine wp_rs (by simp [hi2, hie, hp, hq, hpl, hql, hp0, hq0, w2, e1, hl, hpN, hqN]; with_reducible rfl) (by simp; with_reducible rfl) ?_ | refine wp_reg (by simp [hi2, hie, hp, hq, hpl, hql, hp0, hq0, w2, e1, hl, hpN, hqN]; with_reducible rfl) (by simp; with_reducible rfl) ?_ | (refine wp_ct (t := true) ?_ (fun _ => ?_) (fun hh => nomatch hh); focus (simp [hi2, hie, hp, hq, hpl, hql, hp0, hq0, w2, e1, hl, hpN, hqN]; done)) | (refine wp_ct (t := false) ?_ (fun hh => nomatch hh) (fun _ => ?_); focus (simp [hi2, hie, hp, hq, hpl, hql, hp0, hq0, w2, e1, hl, hpN, hqN]; done)) | (refine wp_c (t := true) ?_ (fun _ => ?_) (fun hh => nomatch hh); focus (simp [hi2, hie, hp, hq, hpl, hql, hp0, hq0, w2, e1, hl, hpN, hqN]; done)) | (refine wp_c (t := false) ?_ (fun hh => nomatch hh) (fun _ => ?_); focus (simp [hi2, hie, hp, hq, hpl, hql, hp0, hq0, w2, e1, hl, hpN, hqN]; done)) | refine wp_bs ?_ | refine wp_b ?_ | refine wp_sr ?_ | refine wp_sx ?_ | refine wp_ret' ?_ | refine wp_skip' ?_ | refine wp_exit' ?_)
    simp [if_impl_subgraphs_F1]
  · refine call_of_wp tb_impl_subgraphs_F1 rfl ?_
    repeat (first | refine wp_as ?_ | refine wp_ss ?_ | refine wp_rs (by simp [hi2, hie, hp, hq, hpl, hql, hp0, w2, e1, hl, hpN, hqN]; with_reducible rfl) (by simp; with_reducible rfl) ?_ | refine wp_reg (by simp [hi2, hie, hp, hq, hpl, hql, hp0, w2, e1, hl, hpN, hqN]; with_reducible rfl) (by simp; with_reducible rfl) ?_ | (refine wp_ct (t := true) ?_ (fun _ => ?_) (fun hh => nomatch hh); focus (simp [hi2, hie, hp, hq, hpl, hql, hp0, w2, e1, hl, hpN, hqN]; done)) | (refine wp_ct (t := false) ?_ (fun hh => nomatch hh) (fun _ => ?_); focus (simp [hi2, hie, hp, hq, hpl, hql, hp0, w2, e1, hl, hpN, hqN]; done)) | (refine wp_c (t := true) ?_ (fun _ => ?_) (fun hh => nomatch hh); focus (simp [hi2, hie, hp, hq, hpl, hql, hp0, w2, e1, hl, hpN, hqN]; done)) | (refine wp_c (t := false) ?_ (fun hh => nomatch hh) (fun _ => ?_); focus (simp [hi2, hie, hp, hq, hpl, hql, hp0, w2, e1, hl, hpN, hqN]; done)) | refine wp_bs ?_ | refine wp_b ?_ | refine wp_sr ?_ | refine wp_sx ?_ | refine wp_ret' ?_ | refine wp_skip' ?_ | refine wp_exit' ?_)
    simp [if_impl_subgraphs_F1]

/-- The lists of numbers on the way: one less at p, then at q, and back. -/
structure Dec (left l1 l2 l3 : List Int) (p q : Nat) (hp : p < left.length) (hq : q < left.length) : Prop where
  e1 : left.set p (left[p] - 1) = l1
  n1 : l1.length = left.length
  g1 : ∀ h : q < l1.length, l1[q] = left[q]
  e2 : l1.set q (left[q] - 1) = l2
  n2 : l2.length = left.length
  g2 : ∀ h : p < l2.length, l2[p] = left[p] - 1
  e3 : l2.set p (left[p]) = l3
  n3 : l3.length = left.length
  g3 : ∀ h : q < l3.length, l3[q] = left[q] - 1
  e4 : l3.set q (left[q]) = left

theorem sg_take (n : Int) (from_ : List (Int × Int)) (c : Bool) (F : Lab) (caps : List IV) (i p q N : Nat) (hi2 : i < from_.length) (hfl : from_.length ≤ 900) (hp : from_[i].1 = p) (hq : from_[i].2 = q) (left l1 l2 l3 : List Int) (hl : left.length = N) (hpN : p < N) (hqN : q < N)
    (hpl : p < left.length) (hql : q < left.length) (hD : Dec left l1 l2 l3 p q hpl hql) (bp : left[p] ≤ 1000) (bq : left[q] ≤ 1000)
    (hp0 : 0 < left[p]) (hq0 : 0 < left[q]) (ch ch' : IV) (chosen : List (Int × Int)) (hch : EdRep ch chosen) (hcl : chosen.length ≤ 950) (bs bs1 bs' : Boxes) (Es : List Boxes) (b1 b : Bool)
    (e1 : Ev tb l_impl_subgraphs_F1 [] (I ((i + 1 : Nat) : Int) :: capsW) (bs :: boxW n 2 from_ c F caps l2 (O2 (chosen ++ [((p : Int), (q : Int))])) :: (Es ++ [[[I p, I q]]])) ⟨Bo b1, [], bs1 :: boxW n 2 from_ c F caps l2 (O2 (chosen ++ [((p : Int), (q : Int))])) :: (Es ++ [[[I p, I q]]]), []⟩)
    (e2 : b1 = true → Ev tb l_impl_subgraphs_F1 [] (I ((i + 1 : Nat) : Int) :: capsW) (bs1 :: boxW n 2 from_ c F caps left (O2 chosen) :: (Es ++ [[[I p, I q]]])) ⟨Bo b, [], bs' :: boxW n 2 from_ c F caps left ch' :: (Es ++ [[[I p, I q]]]), []⟩)
    (e3 : b1 = false → b = false ∧ bs' = bs1 ∧ ch' = O2 chosen) :
    Ev tb l_impl_subgraphs_F1 [] (I i :: capsW) (bs :: boxW n 2 from_ c F caps left ch :: Es) ⟨Bo b, [], bs' :: boxW n 2 from_ c F caps left ch' :: Es, []⟩ := by
  obtain ⟨d1, n1, g1, d2, n2, g2, d3, n3, g3, d4⟩ := hD
  have hie : ¬ (i : Int) = from_.length := by omega
  have w2 : IntKind.i64.wrap ((i : Int) + 1) = (i : Int) + 1 := wrap64 (by omega) (by omega)
  have w3 : IntKind.i64.wrap (left[p] - 1) = left[p] - 1 := wrap64 (by omega) (by omega)
  have w4 : IntKind.i64.wrap (left[q] - 1) = left[q] - 1 := wrap64 (by omega) (by omega)
  have w5 : IntKind.i64.wrap left[p] = left[p] := wrap64 (by omega) (by omega)
  have w6 : IntKind.i64.wrap left[q] = left[q] := wrap64 (by omega) (by omega)
  have w7 : IntKind.i64.wrap (chosen.length : Int) = (chosen.length : Int) := wrap64 (by omega) (by omega)
  have e1 := ev_lim e1
  rw [show ((i + 1 : Nat) : Int) = (i : Int) + 1 by omega] at e1
  rw [hl] at n1 n2 n3
  have hcl1 : chosen.length + 1 ≤ 274877906944 := by omega
  have hct : (chosen ++ [((p : Int), (q : Int))]).take chosen.length = chosen := by simp
  simp only [boxW, capsW] at e1 ⊢
  cases b1 with
  | false =>
    obtain ⟨rfl, rfl, rfl⟩ := e3 rfl
    rcases hch with rfl | ⟨rfl, rfl⟩
    · refine call_of_wp tb_impl_subgraphs_F1 rfl ?_
      repeat (first | refine wp_as ?_ | refine wp_ss ?_ | refine wp_rs (by simp [hi2, hie, hp, hq, hp0, hq0, w2, hl, hpN, hqN, hpl, hql, w3, w4, w5, w6, d1, n1, g1, d2, n2, g2, d3, n3, g3, d4, e1, hcl1, hct, w7, show IntKind.i64.wrap 0 = 0 from rfl]; with_reducible rfl) (by simp; with_reducible rfl) ?_ | refine wp_reg (by simp [hi2, hie, hp, hq, hp0, hq0, w2, hl, hpN, hqN, hpl, hql, w3, w4, w5, w6, d1, n1, g1, d2, n2, g2, d3, n3, g3, d4, e1, hcl1, hct, w7, show IntKind.i64.wrap 0 = 0 from rfl]; with_reducible rfl) (by simp; with_reducible rfl) ?_ | (refine wp_ct (t := true) ?_ (fun _ => ?_) (fun hh => nomatch hh); focus (simp [hi2, hie, hp, hq, hp0, hq0, w2, hl, hpN, hqN, hpl, hql, w3, w4, w5, w6, d1, n1, g1, d2, n2, g2, d3, n3, g3, d4, e1, hcl1, hct, w7, show IntKind.i64.wrap 0 = 0 from rfl]; done)) | (refine wp_ct (t := false) ?_ (fun hh => nomatch hh) (fun _ => ?_); focus (simp [hi2, hie, hp, hq, hp0, hq0, w2, hl, hpN, hqN, hpl, hql, w3, w4, w5, w6, d1, n1, g1, d2, n2, g2, d3, n3, g3, d4, e1, hcl1, hct, w7, show IntKind.i64.wrap 0 = 0 from rfl]; done)) | (refine wp_c (t := true) ?_ (fun _ => ?_) (fun hh => nomatch hh); focus (simp [hi2, hie, hp, hq, hp0, hq0, w2, hl, hpN, hqN, hpl, hql, w3, w4, w5, w6, d1, n1, g1, d2, n2, g2, d3, n3, g3, d4, e1, hcl1, hct, w7, show IntKind.i64.wrap 0 = 0 from rfl]; done)) | (refine wp_c (t := false) ?_ (fun hh => nomatch hh) (fun _ => ?_); focus (simp [hi2, hie, hp, hq, hp0, hq0, w2, hl, hpN, hqN, hpl, hql, w3, w4, w5, w6, d1, n1, g1, d2, n2, g2, d3, n3, g3, d4, e1, hcl1, hct, w7, show IntKind.i64.wrap 0 = 0 from rfl]; done)) | refine wp_bs ?_ | refine wp_b ?_ | refine wp_sr ?_ | refine wp_sx ?_ | refine wp_ret' ?_ | refine wp_skip' ?_ | refine wp_exit' ?_)
      simp [if_impl_subgraphs_F1]
    · simp only [List.nil_append, List.length_nil, O2, show eds [((p : Int), (q : Int))] = [[I p, I q]] from rfl] at e1 hcl1 hct w7
      refine call_of_wp tb_impl_subgraphs_F1 rfl ?_
      repeat (first | refine wp_as ?_ | refine wp_ss ?_ | refine wp_rs (by simp [hi2, hie, hp, hq, hp0, hq0, w2, hl, hpN, hqN, hpl, hql, w3, w4, w5, w6, d1, n1, g1, d2, n2, g2, d3, n3, g3, d4, e1, hcl1, hct, w7, show IntKind.i64.wrap 0 = 0 from rfl]; with_reducible rfl) (by simp; with_reducible rfl) ?_ | refine wp_reg (by simp [hi2, hie, hp, hq, hp0, hq0, w2, hl, hpN, hqN, hpl, hql, w3, w4, w5, w6, d1, n1, g1, d2, n2, g2, d3, n3, g3, d4, e1, hcl1, hct, w7, show IntKind.i64.wrap 0 = 0 from rfl]; with_reducible rfl) (by simp; with_reducible rfl) ?_ | (refine wp_ct (t := true) ?_ (fun _ => ?_) (fun hh => nomatch hh); focus (simp [hi2, hie, hp, hq, hp0, hq0, w2, hl, hpN, hqN, hpl, hql, w3, w4, w5, w6, d1, n1, g1, d2, n2, g2, d3, n3, g3, d4, e1, hcl1, hct, w7, show IntKind.i64.wrap 0 = 0 from rfl]; done)) | (refine wp_ct (t := false) ?_ (fun hh => nomatch hh) (fun _ => ?_); focus (simp [hi2, hie, hp, hq, hp0, hq0, w2, hl, hpN, hqN, hpl, hql, w3, w4, w5, w6, d1, n1, g1, d2, n2, g2, d3, n3, g3, d4, e1, hcl1, hct, w7, show IntKind.i64.wrap 0 = 0 from rfl]; done)) | (refine wp_c (t := true) ?_ (fun _ => ?_) (fun hh => nomatch hh); focus (simp [hi2, hie, hp, hq, hp0, hq0, w2, hl, hpN, hqN, hpl, hql, w3, w4, w5, w6, d1, n1, g1, d2, n2, g2, d3, n3, g3, d4, e1, hcl1, hct, w7, show IntKind.i64.wrap 0 = 0 from rfl]; done)) | (refine wp_c (t := false) ?_ (fun hh => nomatch hh) (fun _ => ?_); focus (simp [hi2, hie, hp, hq, hp0, hq0, w2, hl, hpN, hqN, hpl, hql, w3, w4, w5, w6, d1, n1, g1, d2, n2, g2, d3, n3, g3, d4, e1, hcl1, hct, w7, show IntKind.i64.wrap 0 = 0 from rfl]; done)) | refine wp_bs ?_ | refine wp_b ?_ | refine wp_sr ?_ | refine wp_sx ?_ | refine wp_ret' ?_ | refine wp_skip' ?_ | refine wp_exit' ?_)
      simp [if_impl_subgraphs_F1]
  | true =>
    have e2 := ev_lim (e2 rfl)
    rw [show ((i + 1 : Nat) : Int) = (i : Int) + 1 by omega] at e2
    simp only [boxW, capsW] at e2
    rcases hch with rfl | ⟨rfl, rfl⟩
    · refine call_of_wp tb_impl_subgraphs_F1 rfl ?_
      repeat (first | refine wp_as ?_ | refine wp_ss ?_ | refine wp_rs (by simp [hi2, hie, hp, hq, hp0, hq0, w2, hl, hpN, hqN, hpl, hql, w3, w4, w5, w6, d1, n1, g1, d2, n2, g2, d3, n3, g3, d4, e1, e2, hcl1, hct, w7, show IntKind.i64.wrap 0 = 0 from rfl]; with_reducible rfl) (by simp; with_reducible rfl) ?_ | refine wp_reg (by simp [hi2, hie, hp, hq, hp0, hq0, w2, hl, hpN, hqN, hpl, hql, w3, w4, w5, w6, d1, n1, g1, d2, n2, g2, d3, n3, g3, d4, e1, e2, hcl1, hct, w7, show IntKind.i64.wrap 0 = 0 from rfl]; with_reducible rfl) (by simp; with_reducible rfl) ?_ | (refine wp_ct (t := true) ?_ (fun _ => ?_) (fun hh => nomatch hh); focus (simp [hi2, hie, hp, hq, hp0, hq0, w2, hl, hpN, hqN, hpl, hql, w3, w4, w5, w6, d1, n1, g1, d2, n2, g2, d3, n3, g3, d4, e1, e2, hcl1, hct, w7, show IntKind.i64.wrap 0 = 0 from rfl]; done)) | (refine wp_ct (t := false) ?_ (fun hh => nomatch hh) (fun _ => ?_); focus (simp [hi2, hie, hp, hq, hp0, hq0, w2, hl, hpN, hqN, hpl, hql, w3, w4, w5, w6, d1, n1, g1, d2, n2, g2, d3, n3, g3, d4, e1, e2, hcl1, hct, w7, show IntKind.i64.wrap 0 = 0 from rfl]; done)) | (refine wp_c (t := true) ?_ (fun _ => ?_) (fun hh => nomatch hh); focus (simp [hi2, hie, hp, hq, hp0, hq0, w2, hl, hpN, hqN, hpl, hql, w3, w4, w5, w6, d1, n1, g1, d2, n2, g2, d3, n3, g3, d4, e1, e2, hcl1, hct, w7, show IntKind.i64.wrap 0 = 0 from rfl]; done)) | (refine wp_c (t := false) ?_ (fun hh => nomatch hh) (fun _ => ?_); focus (simp [hi2, hie, hp, hq, hp0, hq0, w2, hl, hpN, hqN, hpl, hql, w3, w4, w5, w6, d1, n1, g1, d2, n2, g2, d3, n3, g3, d4, e1, e2, hcl1, hct, w7, show IntKind.i64.wrap 0 = 0 from rfl]; done)) | refine wp_bs ?_ | refine wp_b ?_ | refine wp_sr ?_ | refine wp_sx ?_ | refine wp_ret' ?_ | refine wp_skip' ?_ | refine wp_exit' ?_)
      simp [if_impl_subgraphs_F1]
    · simp only [List.nil_append, List.length_nil, O2, show eds [((p : Int), (q : Int))] = [[I p, I q]] from rfl] at e1 hcl1 hct w7
      simp only [O2, eds_nil] at e2
      refine call_of_wp tb_impl_subgraphs_F1 rfl ?_
      repeat (first | refine wp_as ?_ | refine wp_ss ?_ | refine wp_rs (by simp [hi2, hie, hp, hq, hp0, hq0, w2, hl, hpN, hqN, hpl, hql, w3, w4, w5, w6, d1, n1, g1, d2, n2, g2, d3, n3, g3, d4, e1, e2, hcl1, hct, w7, show IntKind.i64.wrap 0 = 0 from rfl]; with_reducible rfl) (by simp; with_reducible rfl) ?_ | refine wp_reg (by simp [hi2, hie, hp, hq, hp0, hq0, w2, hl, hpN, hqN, hpl, hql, w3, w4, w5, w6, d1, n1, g1, d2, n2, g2, d3, n3, g3, d4, e1, e2, hcl1, hct, w7, show IntKind.i64.wrap 0 = 0 from rfl]; with_reducible rfl) (by simp; with_reducible rfl) ?_ | (refine wp_ct (t := true) ?_ (fun _ => ?_) (fun hh => nomatch hh); focus (simp [hi2, hie, hp, hq, hp0, hq0, w2, hl, hpN, hqN, hpl, hql, w3, w4, w5, w6, d1, n1, g1, d2, n2, g2, d3, n3, g3, d4, e1, e2, hcl1, hct, w7, show IntKind.i64.wrap 0 = 0 from rfl]; done)) | (refine wp_ct (t := false) ?_ (fun hh => nomatch hh) (fun _ => ?_); focus (simp [hi2, hie, hp, hq, hp0, hq0, w2, hl, hpN, hqN, hpl, hql, w3, w4, w5, w6, d1, n1, g1, d2, n2, g2, d3, n3, g3, d4, e1, e2, hcl1, hct, w7, show IntKind.i64.wrap 0 = 0 from rfl]; done)) | (refine wp_c (t := true) ?_ (fun _ => ?_) (fun hh => nomatch hh); focus (simp [hi2, hie, hp, hq, hp0, hq0, w2, hl, hpN, hqN, hpl, hql, w3, w4, w5, w6, d1, n1, g1, d2, n2, g2, d3, n3, g3, d4, e1, e2, hcl1, hct, w7, show IntKind.i64.wrap 0 = 0 from rfl]; done)) | (refine wp_c (t := false) ?_ (fun hh => nomatch hh) (fun _ => ?_); focus (simp [hi2, hie, hp, hq, hp0, hq0, w2, hl, hpN, hqN, hpl, hql, w3, w4, w5, w6, d1, n1, g1, d2, n2, g2, d3, n3, g3, d4, e1, e2, hcl1, hct, w7, show IntKind.i64.wrap 0 = 0 from rfl]; done)) | refine wp_bs ?_ | refine wp_b ?_ | refine wp_sr ?_ | refine wp_sx ?_ | refine wp_ret' ?_ | refine wp_skip' ?_ | refine wp_exit' ?_)
      simp [if_impl_subgraphs_F1]

theorem dec_ok {left : List Int} {p q : Nat} (hp : p < left.length) (hq : q < left.length) (hpq : p ≠ q) :
    Dec left (left.set p (left[p] - 1)) (decAt (decAt left p) q) ((decAt (decAt left p) q).set p left[p]) p q hp hq := by
  have gp : left.getD p 0 = left[p] := by simp [List.getD_eq_getElem?_getD, List.getElem?_eq_getElem hp]
  have h1 : decAt left p = left.set p (left[p] - 1) := by rw [decAt, gp]
  have gq : (left.set p (left[p] - 1)).getD q 0 = left[q] := by
    rw [List.getD_eq_getElem?_getD, List.getElem?_set, if_neg hpq, List.getElem?_eq_getElem hq]; rfl
  have h2 : decAt (decAt left p) q = (left.set p (left[p] - 1)).set q (left[q] - 1) := by
    rw [h1, decAt, gq]
  rw [h2]
  refine ⟨rfl, by simp, fun h => ?_, rfl, by simp, fun h => ?_, rfl, by simp, fun h => ?_, ?_⟩
  · rw [List.getElem_set_ne hpq]
  · rw [List.getElem_set_ne hpq.symm, List.getElem_set_self]
  · rw [List.getElem_set_ne hpq, List.getElem_set_self]
  · refine List.ext_getElem (by simp) fun k k1 k2 => ?_
    rw [List.getElem_set, List.getElem_set, List.getElem_set, List.getElem_set]
    split
    · subst_vars; rfl
    · split
      · subst_vars; rfl
      · rfl

end Go.Idl

namespace Go.Idl

open Go

theorem subs_len : ∀ (r : List (Int × Int)) (left : List Int) (ch : List (Int × Int)), (subs r left ch).length ≤ 2 ^ r.length
  | [], left, ch => by rw [subs]; split <;> simp
  | e :: r, left, ch => by
    have h1 := subs_len r (decAt (decAt left e.1.toNat) e.2.toNat) (ch ++ [e])
    have h2 := subs_len r left ch
    rw [subs, List.length_append, List.length_cons, Nat.pow_succ]
    split
    · omega
    · simp; omega

theorem upTo_true (l : List (List (Int × Int))) : upTo (fun _ => true) l = (l, true) := by
  induction l with
  | nil => rfl
  | cons g r ih => simp [upTo, ih]

theorem upTo_len (more) : ∀ l : List (List (Int × Int)), (upTo more l).1.length ≤ l.length
  | [] => by simp [upTo]
  | g :: r => by
    have := upTo_len more r
    rw [upTo]
    split
    · simp; exact this
    · simp

theorem decAt_len (o : List Int) (i : Nat) : (decAt o i).length = o.length := by simp [decAt]

theorem sg_walk (n : Int) (e0 : Nat) (from_ : List (Int × Int)) (c : Bool) (F : Lab) (caps : List IV) (more : List (Int × Int) → Bool) (P : List (List (Int × Int)) → Boxes → Prop) (hcb : CallsBack n F caps more P) (N : Nat)
    (hfr : ∀ e ∈ from_, 0 ≤ e.1 ∧ e.1 < e.2 ∧ e.2 < N) (hfl : from_.length ≤ 900) (hN : N ≤ 1000) (he0 : e0 = 2 ∨ from_ = []) : ∀ (m i : Nat) (left : List Int) (ch : IV) (chosen : List (Int × Int)) (gl : List (List (Int × Int))) (bs : Boxes) (Es : List Boxes), i + m = from_.length → P gl bs → EdRep ch chosen →
    left.length = N → (∀ x ∈ left, x ≤ 1000) → chosen.length + m ≤ 950 → gl.length + 2 ^ m ≤ 10000000 →
    ∃ ch' bs', EdRep ch' chosen ∧ P (gl ++ (upTo more (subs (from_.drop i) left chosen)).1) bs' ∧
      Ev tb l_impl_subgraphs_F1 [] (I i :: capsW) (bs :: boxW n e0 from_ c F caps left ch :: Es) ⟨Bo (upTo more (subs (from_.drop i) left chosen)).2, [], bs' :: boxW n e0 from_ c F caps left ch' :: Es, []⟩ := by
  intro m
  induction m with
  | zero =>
    intro i left ch chosen gl bs Es hi hP hch hl hlb hcl hgl
    have h3 : i = from_.length := hi
    subst h3
    rw [List.drop_length]
    exact sg_end n e0 from_ c F caps more P hcb N hN hfl left ch chosen gl bs Es hP (by omega) hch hl (by omega)
  | succ m ih =>
    intro i left ch chosen gl bs Es hi hP hch hl hlb hcl hgl
    have hi2 : i < from_.length := by omega
    have he2 : e0 = 2 := he0.resolve_right fun h => by rw [h] at hi2; simp at hi2
    subst he2
    have hd : from_.drop i = from_[i] :: from_.drop (i + 1) := List.drop_eq_getElem_cons hi2
    rw [Nat.pow_succ] at hgl
    obtain ⟨hf1, hf2, hf3⟩ := hfr _ (List.getElem_mem hi2)
    obtain ⟨p, hp⟩ := Int.eq_ofNat_of_zero_le hf1
    obtain ⟨q, hq⟩ := Int.eq_ofNat_of_zero_le (show 0 ≤ from_[i].2 by omega)
    have hpl : p < left.length := by omega
    have hql : q < left.length := by omega
    have hpq : p ≠ q := by omega
    have gp : left.getD p 0 = left[p] := by simp [List.getD_eq_getElem?_getD, List.getElem?_eq_getElem hpl]
    have gq : left.getD q 0 = left[q] := by simp [List.getD_eq_getElem?_getD, List.getElem?_eq_getElem hql]
    have he : from_[i] = ((p : Int), (q : Int)) := Prod.ext hp hq
    rw [hd, subs]
    have tp : from_[i].1.toNat = p := by omega
    have tq : from_[i].2.toNat = q := by omega
    rw [tp, tq, gp, gq]
    by_cases hpos : 0 < left[p] ∧ 0 < left[q]
    rotate_left
    · rw [if_neg hpos, List.nil_append]
      obtain ⟨ch', bs', k1, k2, k3⟩ := ih (i + 1) left ch chosen gl bs (Es ++ [[[I p, I q]]]) (by omega) hP hch hl hlb (by omega) (by omega)
      exact ⟨ch', bs', k1, k2, sg_skip n from_ c F caps i p q N hi2 hfl hp hq left hl (by omega) (by omega) hpos ch ch' bs bs' Es _ k3⟩
    · rw [if_pos hpos, he]
      have hD := dec_ok hpl hql hpq
      have hlb2 : ∀ x ∈ decAt (decAt left p) q, x ≤ 1000 := fun x hx => by
        have one : ∀ (o : List Int) (k : Nat), (∀ x ∈ o, x ≤ 1000) → ∀ x ∈ decAt o k, x ≤ 1000 := fun o k ho x hx => by
          rcases List.mem_or_eq_of_mem_set hx with hx | rfl
          · exact ho x hx
          · rw [List.getD_eq_getElem?_getD]
            cases ho2 : o[k]? with
            | none => simp
            | some y => have := ho y (List.mem_of_getElem? ho2); simp; omega
        exact one _ q (one _ p hlb) x hx
      obtain ⟨ch1, bs1, k1, k2, k3⟩ := ih (i + 1) (decAt (decAt left p) q) (O2 (chosen ++ [((p : Int), (q : Int))])) (chosen ++ [((p : Int), (q : Int))]) gl bs (Es ++ [[[I p, I q]]]) (by omega) hP (.inl rfl) (by rw [decAt_len, decAt_len]; exact hl) hlb2 (by simp; omega) (by omega)
      have hc1 : ch1 = O2 (chosen ++ [((p : Int), (q : Int))]) := by
        rcases k1 with k1 | ⟨k1, _⟩
        · exact k1
        · simp at k1
      subst hc1
      rw [upTo_app]
      obtain ⟨b1, hb1⟩ : ∃ b1, b1 = (upTo more (subs (from_.drop (i + 1)) (decAt (decAt left p) q) (chosen ++ [((p : Int), (q : Int))]))).2 := ⟨_, rfl⟩
      rw [← hb1] at k3 ⊢
      have bp := hlb _ (List.getElem_mem hpl)
      have bq := hlb _ (List.getElem_mem hql)
      cases b1 with
      | false =>
        simp only [Bool.false_eq_true, if_false]
        rw [← hb1]
        refine ⟨O2 chosen, bs1, .inl rfl, k2, ?_⟩
        exact sg_take n from_ c F caps i p q N hi2 hfl hp hq left _ _ _ hl (by omega) (by omega) hpl hql hD bp bq hpos.1 hpos.2 ch (O2 chosen) chosen hch (by omega) bs bs1 bs1 Es false false k3 (fun h => by cases h) (fun _ => ⟨rfl, rfl, rfl⟩)
      | true =>
        simp only [if_true]
        have hgl2 : (gl ++ (upTo more (subs (from_.drop (i + 1)) (decAt (decAt left p) q) (chosen ++ [((p : Int), (q : Int))]))).1).length + 2 ^ m ≤ 10000000 := by
          have h1 := upTo_len more (subs (from_.drop (i + 1)) (decAt (decAt left p) q) (chosen ++ [((p : Int), (q : Int))]))
          have h2 := subs_len (from_.drop (i + 1)) (decAt (decAt left p) q) (chosen ++ [((p : Int), (q : Int))])
          rw [List.length_drop, show from_.length - (i + 1) = m by omega] at h2
          rw [List.length_append]; omega
        obtain ⟨ch2, bs2, j1, j2, j3⟩ := ih (i + 1) left (O2 chosen) chosen _ bs1 (Es ++ [[[I p, I q]]]) (by omega) k2 (.inl rfl) hl hlb (by omega) hgl2
        refine ⟨ch2, bs2, j1, by rw [← List.append_assoc]; exact j2, ?_⟩
        exact sg_take n from_ c F caps i p q N hi2 hfl hp hq left _ _ _ hl (by omega) (by omega) hpl hql hD bp bq hpos.1 hpos.2 ch ch2 chosen hch (by omega) bs bs1 bs2 Es true _ k3 (fun _ => j3) (fun h => by cases h)

/-- The search itself; edges may be none. -/
theorem ev_subgraphs (n : Int) (e0 : Nat) (from_ : List (Int × Int)) (c : Bool) (d : List Int) (cd : Bool) (F : Lab) (caps : List IV) (more : List (Int × Int) → Bool) (P : List (List (Int × Int)) → Boxes → Prop) (hcb : CallsBack n F caps more P)
    (he0 : e0 = 2 ∨ from_ = []) (hfr : ∀ e ∈ from_, 0 ≤ e.1 ∧ e.1 < e.2 ∧ e.2 < d.length) (hfl : from_.length ≤ 21) (hN : d.length ≤ 1000) (hd : ∀ x ∈ d, x ≤ 1000) (bs : Boxes) (hP : P [] bs) :
    ∃ bs', P (upTo more (subs from_ d [])).1 bs' ∧ Ev tb l_impl_subgraphs [] [I n, .lst e0 (eds from_) c, L d cd, .fn F caps] [bs] ⟨.tup [], [], [bs'], []⟩ := by
  obtain ⟨ch', bs', k1, k2, k3⟩ := sg_walk n e0 from_ c F caps more P hcb d.length hfr (by omega) hN he0 from_.length 0 d Z [] [] bs [] (by simp) hP (.inr ⟨rfl, rfl⟩) rfl hd (by simp; omega) (by
    have := Nat.pow_le_pow_right (show 0 < 2 by decide) hfl
    simp only [List.length_nil]; omega)
  refine ⟨bs', by simpa using k2, ?_⟩
  have e1 := ev_lim k3
  have e2 := ev_lim (ev_clone d cd (by omega))
  simp only [boxW, capsW] at e1
  rw [show ((0 : Nat) : Int) = 0 from rfl] at e1
  refine call_of_wp tb_impl_subgraphs rfl ?_
  repeat (first | refine wp_as ?_ | refine wp_ss ?_ | refine wp_rs (by simp [e1, e2]; with_reducible rfl) (by simp; with_reducible rfl) ?_ | refine wp_reg (by simp [e1, e2]; with_reducible rfl) (by simp; with_reducible rfl) ?_ | (refine wp_ct (t := true) ?_ (fun _ => ?_) (fun hh => nomatch hh); focus (simp [e1, e2]; done)) | (refine wp_ct (t := false) ?_ (fun hh => nomatch hh) (fun _ => ?_); focus (simp [e1, e2]; done)) | (refine wp_c (t := true) ?_ (fun _ => ?_) (fun hh => nomatch hh); focus (simp [e1, e2]; done)) | (refine wp_c (t := false) ?_ (fun hh => nomatch hh) (fun _ => ?_); focus (simp [e1, e2]; done)) | refine wp_bs ?_ | refine wp_b ?_ | refine wp_sr ?_ | refine wp_sx ?_ | refine wp_ret' ?_ | refine wp_skip' ?_ | refine wp_exit' ?_)
  simp [if_impl_subgraphs]

end Go.Idl

namespace Go.Idl

open Go

/-- Graphs in a slice. -/
def gls (n : Int) (gl : List (List (Int × Int))) : List (List IV) := gl.map fun es => [I n, O2 es]

@[simp] theorem gls_len (n : Int) (gl) : (gls n gl).length = gl.length := by simp [gls]

@[simp] theorem gls_one (n : Int) (gl) (es : List (Int × Int)) : gls n gl ++ [[IV.sc (.int .i64 n), .own 2 (eds es)]] = gls n (gl ++ [es]) := by simp [gls]

@[simp] theorem gls_emp (n : Int) (gl) : (gls n gl).isEmpty = gl.isEmpty := by cases gl <;> rfl

@[simp] theorem gls_take (n : Int) (gl) (k : Nat) : (gls n gl).take k = gls n (gl.take k) := by simp [gls, List.map_take]

@[simp] theorem gls_all (n : Int) (gl) : ((gls n gl).all fun x => x.all IV.isData) = true := by
  induction gl with
  | nil => rfl
  | cons x xs ih => simp only [gls, List.map_cons, List.all_cons] at *; rw [ih]; rfl

@[simp] theorem gls_noLst (n : Int) (gl) : noLstLL (gls n gl) = true := by
  induction gl with
  | nil => rfl
  | cons x xs ih => simp only [gls, List.map_cons, noLstLL, noLstL, noLstV, eds_noLst] at *; rw [ih]; rfl

def ngl (n : Int) : List (List (Int × Int)) → IV
  | [] => Z
  | g :: gl => .own 2 (gls n (g :: gl))

theorem all_F1 (n : Int) (gl : List (List (Int × Int))) (es : List (Int × Int)) (B : Boxes) (Es : List Boxes) (hl : gl.length ≤ 100000000) :
    Ev tb l_impl_AllRealizations_F1 [] [.agg [I n, O2 es], .bptr 0 0 0] ([[ngl n gl]] :: B :: Es) ⟨Bo true, [], [[ngl n (gl ++ [es])]] :: B :: Es, []⟩ := by
  cases gl with
  | nil =>
    simp only [ngl, List.nil_append]
    refine call_of_wp tb_impl_AllRealizations_F1 rfl ?_
    repeat (first | refine wp_as ?_ | refine wp_ss ?_ | refine wp_rs (by simp; with_reducible rfl) (by simp; with_reducible rfl) ?_ | refine wp_reg (by simp; with_reducible rfl) (by simp; with_reducible rfl) ?_ | (refine wp_ct (t := true) ?_ (fun _ => ?_) (fun hh => nomatch hh); focus (simp; done)) | (refine wp_ct (t := false) ?_ (fun hh => nomatch hh) (fun _ => ?_); focus (simp; done)) | (refine wp_c (t := true) ?_ (fun _ => ?_) (fun hh => nomatch hh); focus (simp; done)) | (refine wp_c (t := false) ?_ (fun hh => nomatch hh) (fun _ => ?_); focus (simp; done)) | refine wp_bs ?_ | refine wp_b ?_ | refine wp_sr ?_ | refine wp_sx ?_ | refine wp_ret' ?_ | refine wp_skip' ?_ | refine wp_exit' ?_)
    simp [if_impl_AllRealizations_F1, gls]
  | cons g gl =>
    simp only [ngl, List.cons_append]
    rw [← List.cons_append]
    have h1 : gl.length + 1 + 1 ≤ 274877906944 := by simp at hl; omega
    have h2 : (gls n (g :: gl)).take (gl.length + 1) = gls n (g :: gl) := List.take_of_length_le (by simp)
    refine call_of_wp tb_impl_AllRealizations_F1 rfl ?_
    repeat (first | refine wp_as ?_ | refine wp_ss ?_ | refine wp_rs (by simp [h1, h2]; with_reducible rfl) (by simp; with_reducible rfl) ?_ | refine wp_reg (by simp [h1, h2]; with_reducible rfl) (by simp; with_reducible rfl) ?_ | (refine wp_ct (t := true) ?_ (fun _ => ?_) (fun hh => nomatch hh); focus (simp [h1, h2]; done)) | (refine wp_ct (t := false) ?_ (fun hh => nomatch hh) (fun _ => ?_); focus (simp [h1, h2]; done)) | (refine wp_c (t := true) ?_ (fun _ => ?_) (fun hh => nomatch hh); focus (simp [h1, h2]; done)) | (refine wp_c (t := false) ?_ (fun hh => nomatch hh) (fun _ => ?_); focus (simp [h1, h2]; done)) | refine wp_bs ?_ | refine wp_b ?_ | refine wp_sr ?_ | refine wp_sx ?_ | refine wp_ret' ?_ | refine wp_skip' ?_ | refine wp_exit' ?_)
    simp [if_impl_AllRealizations_F1]

theorem calls_all (n : Int) : CallsBack n l_impl_AllRealizations_F1 [.bptr 0 0 0] (fun _ => true) (fun gl bs => bs = [[ngl n gl]]) := by
  intro gl bs es hP hl he
  exact ⟨[[ngl n (gl ++ [es])]], rfl, fun B Es => by rw [hP]; exact all_F1 n gl es B Es (by omega)⟩

theorem ev_listed (d : List Int) (c : Bool) (k : Int) (hl : d.length ≤ 1000000) : Ev tb l_impl_listed [] [L d c, I k] [] ⟨Bo (valid d && decide ((d.length : Int) ≤ k)), [], [], []⟩ := by
  have e1 := ev_lim (ev_ValidDegrees d c hl)
  cases hv : valid d with
  | false =>
    rw [hv] at e1
    refine call_of_wp tb_impl_listed rfl ?_
    repeat (first | refine wp_as ?_ | refine wp_ss ?_ | refine wp_rs (by simp [e1]; with_reducible rfl) (by simp; with_reducible rfl) ?_ | refine wp_reg (by simp [e1]; with_reducible rfl) (by simp; with_reducible rfl) ?_ | (refine wp_ct (t := true) ?_ (fun _ => ?_) (fun hh => nomatch hh); focus (simp [e1]; done)) | (refine wp_ct (t := false) ?_ (fun hh => nomatch hh) (fun _ => ?_); focus (simp [e1]; done)) | (refine wp_c (t := true) ?_ (fun _ => ?_) (fun hh => nomatch hh); focus (simp [e1]; done)) | (refine wp_c (t := false) ?_ (fun hh => nomatch hh) (fun _ => ?_); focus (simp [e1]; done)) | refine wp_bs ?_ | refine wp_b ?_ | refine wp_sr ?_ | refine wp_sx ?_ | refine wp_ret' ?_ | refine wp_skip' ?_ | refine wp_exit' ?_)
    simp [if_impl_listed]
  | true =>
    rw [hv] at e1
    refine call_of_wp tb_impl_listed rfl ?_
    repeat (first | refine wp_as ?_ | refine wp_ss ?_ | refine wp_rs (by simp [e1]; with_reducible rfl) (by simp; with_reducible rfl) ?_ | refine wp_reg (by simp [e1]; with_reducible rfl) (by simp; with_reducible rfl) ?_ | (refine wp_ct (t := true) ?_ (fun _ => ?_) (fun hh => nomatch hh); focus (simp [e1]; done)) | (refine wp_ct (t := false) ?_ (fun hh => nomatch hh) (fun _ => ?_); focus (simp [e1]; done)) | (refine wp_c (t := true) ?_ (fun _ => ?_) (fun hh => nomatch hh); focus (simp [e1]; done)) | (refine wp_c (t := false) ?_ (fun hh => nomatch hh) (fun _ => ?_); focus (simp [e1]; done)) | refine wp_bs ?_ | refine wp_b ?_ | refine wp_sr ?_ | refine wp_sx ?_ | refine wp_ret' ?_ | refine wp_skip' ?_ | refine wp_exit' ?_)
    simp [if_impl_listed]

theorem ev_ClipG (n : Int) (gl : List (List (Int × Int))) : Ev tb l_slices_Clip_Simpl_Graph_impl_Graph_ [] [ngl n gl] [] ⟨ngl n gl, [], [], []⟩ := by
  cases gl with
  | nil =>
    simp only [ngl]
    refine call_of_wp tb_slices_Clip_Simpl_Graph_impl_Graph_ rfl ?_
    repeat (first | refine wp_as ?_ | refine wp_ss ?_ | refine wp_rs (by simp; with_reducible rfl) (by simp; with_reducible rfl) ?_ | refine wp_reg (by simp; with_reducible rfl) (by simp; with_reducible rfl) ?_ | (refine wp_ct (t := true) ?_ (fun _ => ?_) (fun hh => nomatch hh); focus (simp; done)) | (refine wp_ct (t := false) ?_ (fun hh => nomatch hh) (fun _ => ?_); focus (simp; done)) | (refine wp_c (t := true) ?_ (fun _ => ?_) (fun hh => nomatch hh); focus (simp; done)) | (refine wp_c (t := false) ?_ (fun hh => nomatch hh) (fun _ => ?_); focus (simp; done)) | refine wp_bs ?_ | refine wp_b ?_ | refine wp_sr ?_ | refine wp_sx ?_ | refine wp_ret' ?_ | refine wp_skip' ?_ | refine wp_exit' ?_)
    simp [if_slices_Clip_Simpl_Graph_impl_Graph_]
  | cons g gl =>
    simp only [ngl]
    have h2 : (gls n (g :: gl)).take (gl.length + 1) = gls n (g :: gl) := List.take_of_length_le (by simp)
    refine call_of_wp tb_slices_Clip_Simpl_Graph_impl_Graph_ rfl ?_
    repeat (first | refine wp_as ?_ | refine wp_ss ?_ | refine wp_rs (by simp [h2]; with_reducible rfl) (by simp; with_reducible rfl) ?_ | refine wp_reg (by simp [h2]; with_reducible rfl) (by simp; with_reducible rfl) ?_ | (refine wp_ct (t := true) ?_ (fun _ => ?_) (fun hh => nomatch hh); focus (simp [h2]; done)) | (refine wp_ct (t := false) ?_ (fun hh => nomatch hh) (fun _ => ?_); focus (simp [h2]; done)) | (refine wp_c (t := true) ?_ (fun _ => ?_) (fun hh => nomatch hh); focus (simp [h2]; done)) | (refine wp_c (t := false) ?_ (fun hh => nomatch hh) (fun _ => ?_); focus (simp [h2]; done)) | refine wp_bs ?_ | refine wp_b ?_ | refine wp_sr ?_ | refine wp_sx ?_ | refine wp_ret' ?_ | refine wp_skip' ?_ | refine wp_exit' ?_)
    simp [if_slices_Clip_Simpl_Graph_impl_Graph_, h2]

theorem prs21 : ∀ n, n ≤ 7 → (prs n).length ≤ 21 := by decide +kernel

/-- All graphs with degrees. -/
def reals (d : List Int) : List (List (Int × Int)) := subs (prs d.length) d []

theorem ev_AllRealizations (d : List Int) (c : Bool) (hv : valid d = true) (h5 : d.length ≤ 5) : Ev tb l_impl_AllRealizations [] [L d c] [] ⟨ngl d.length (reals d), [], [], []⟩ := by
  have hf := valid_few hv
  have e1 := ev_lim (ev_listed d c 5 (by omega))
  rw [hv, decide_eq_true (by omega : (d.length : Int) ≤ 5), Bool.true_and] at e1
  have e2 := ev_lim (ev_impl_pairs d.length (by omega))
  have hpl := prs21 d.length (by omega)
  have hin : ∀ e ∈ prs d.length, 0 ≤ e.1 ∧ e.1 < e.2 ∧ e.2 < d.length := fun e he => mem_prs.1 he
  obtain ⟨bs', k1, k2⟩ : ∃ bs', (fun gl bs => bs = [[ngl d.length gl]]) (upTo (fun _ => true) (reals d)).1 bs' ∧ Ev tb l_impl_subgraphs [] [I d.length, match nl2 (prs d.length) with | .own e x => .lst e x false | x => x, L d c, .fn l_impl_AllRealizations_F1 [.bptr 0 0 0]] [[[Z]]] ⟨.tup [], [], [bs'], []⟩ := by
    unfold reals
    cases hq : prs d.length with
    | nil => exact ev_subgraphs d.length 0 [] true d c _ _ _ _ (calls_all d.length) (.inr rfl) (by simp) (by simp) (by omega) (fun x hx => by have := hf.2 x hx; omega) [[Z]] rfl
    | cons e r =>
      rw [hq] at hin hpl
      exact ev_subgraphs d.length 2 (e :: r) false d c _ _ _ _ (calls_all d.length) (.inl rfl) hin hpl (by omega) (fun x hx => by have := hf.2 x hx; omega) [[Z]] rfl
  rw [upTo_true] at k1
  simp only at k1
  subst k1
  have e3 := ev_lim k2
  have e4 := ev_lim (ev_ClipG d.length (reals d))
  generalize reals d = gl at *
  cases hq : prs d.length with
  | nil =>
    rw [hq] at e2 e3
    simp only [nl2_nil] at e2 e3
    cases gl with
    | nil =>
      simp only [ngl] at e3 e4 ⊢
      refine call_of_wp tb_impl_AllRealizations rfl ?_
      repeat (first | refine wp_as ?_ | refine wp_ss ?_ | refine wp_rs (by simp [e1, e2, e3, e4]; with_reducible rfl) (by simp; with_reducible rfl) ?_ | refine wp_reg (by simp [e1, e2, e3, e4]; with_reducible rfl) (by simp; with_reducible rfl) ?_ | (refine wp_ct (t := true) ?_ (fun _ => ?_) (fun hh => nomatch hh); focus (simp [e1, e2, e3, e4]; done)) | (refine wp_ct (t := false) ?_ (fun hh => nomatch hh) (fun _ => ?_); focus (simp [e1, e2, e3, e4]; done)) | (refine wp_c (t := true) ?_ (fun _ => ?_) (fun hh => nomatch hh); focus (simp [e1, e2, e3, e4]; done)) | (refine wp_c (t := false) ?_ (fun hh => nomatch hh) (fun _ => ?_); focus (simp [e1, e2, e3, e4]; done)) | refine wp_bs ?_ | refine wp_b ?_ | refine wp_sr ?_ | refine wp_sx ?_ | refine wp_ret' ?_ | refine wp_skip' ?_ | refine wp_exit' ?_)
      simp [if_impl_AllRealizations]
    | cons g gl =>
      simp only [ngl] at e3 e4 ⊢
      refine call_of_wp tb_impl_AllRealizations rfl ?_
      repeat (first | refine wp_as ?_ | refine wp_ss ?_ | refine wp_rs (by simp [e1, e2, e3, e4]; with_reducible rfl) (by simp; with_reducible rfl) ?_ | refine wp_reg (by simp [e1, e2, e3, e4]; with_reducible rfl) (by simp; with_reducible rfl) ?_ | (refine wp_ct (t := true) ?_ (fun _ => ?_) (fun hh => nomatch hh); focus (simp [e1, e2, e3, e4]; done)) | (refine wp_ct (t := false) ?_ (fun hh => nomatch hh) (fun _ => ?_); focus (simp [e1, e2, e3, e4]; done)) | (refine wp_c (t := true) ?_ (fun _ => ?_) (fun hh => nomatch hh); focus (simp [e1, e2, e3, e4]; done)) | (refine wp_c (t := false) ?_ (fun hh => nomatch hh) (fun _ => ?_); focus (simp [e1, e2, e3, e4]; done)) | refine wp_bs ?_ | refine wp_b ?_ | refine wp_sr ?_ | refine wp_sx ?_ | refine wp_ret' ?_ | refine wp_skip' ?_ | refine wp_exit' ?_)
      simp [if_impl_AllRealizations]
  | cons e r =>
    rw [hq] at e2 e3
    simp only [nl2_cons] at e2 e3
    have hT : (e :: r).take (r.length + 1) = e :: r := List.take_of_length_le (by simp)
    cases gl with
    | nil =>
      simp only [ngl] at e3 e4 ⊢
      refine call_of_wp tb_impl_AllRealizations rfl ?_
      repeat (first | refine wp_as ?_ | refine wp_ss ?_ | refine wp_rs (by simp [e1, e2, e3, e4, hT]; with_reducible rfl) (by simp; with_reducible rfl) ?_ | refine wp_reg (by simp [e1, e2, e3, e4, hT]; with_reducible rfl) (by simp; with_reducible rfl) ?_ | (refine wp_ct (t := true) ?_ (fun _ => ?_) (fun hh => nomatch hh); focus (simp [e1, e2, e3, e4, hT]; done)) | (refine wp_ct (t := false) ?_ (fun hh => nomatch hh) (fun _ => ?_); focus (simp [e1, e2, e3, e4, hT]; done)) | (refine wp_c (t := true) ?_ (fun _ => ?_) (fun hh => nomatch hh); focus (simp [e1, e2, e3, e4, hT]; done)) | (refine wp_c (t := false) ?_ (fun hh => nomatch hh) (fun _ => ?_); focus (simp [e1, e2, e3, e4, hT]; done)) | refine wp_bs ?_ | refine wp_b ?_ | refine wp_sr ?_ | refine wp_sx ?_ | refine wp_ret' ?_ | refine wp_skip' ?_ | refine wp_exit' ?_)
      simp [if_impl_AllRealizations]
    | cons g gl =>
      simp only [ngl] at e3 e4 ⊢
      refine call_of_wp tb_impl_AllRealizations rfl ?_
      repeat (first | refine wp_as ?_ | refine wp_ss ?_ | refine wp_rs (by simp [e1, e2, e3, e4, hT]; with_reducible rfl) (by simp; with_reducible rfl) ?_ | refine wp_reg (by simp [e1, e2, e3, e4, hT]; with_reducible rfl) (by simp; with_reducible rfl) ?_ | (refine wp_ct (t := true) ?_ (fun _ => ?_) (fun hh => nomatch hh); focus (simp [e1, e2, e3, e4, hT]; done)) | (refine wp_ct (t := false) ?_ (fun hh => nomatch hh) (fun _ => ?_); focus (simp [e1, e2, e3, e4, hT]; done)) | (refine wp_c (t := true) ?_ (fun _ => ?_) (fun hh => nomatch hh); focus (simp [e1, e2, e3, e4, hT]; done)) | (refine wp_c (t := false) ?_ (fun hh => nomatch hh) (fun _ => ?_); focus (simp [e1, e2, e3, e4, hT]; done)) | refine wp_bs ?_ | refine wp_b ?_ | refine wp_sr ?_ | refine wp_sx ?_ | refine wp_ret' ?_ | refine wp_skip' ?_ | refine wp_exit' ?_)
      simp [if_impl_AllRealizations]

end Go.Idl

namespace Go.Idl

open Go

theorem ev_smallGraph (code : List Int) (c : Bool) (hc : CodeOk code) (cnt : Nat) (hn : cnt ≤ 90000) (bs : Boxes) (Ms : List Boxes) :
    ∃ (n : Nat) (es : List (Int × Int)) (k : Nat), n ≤ 5 ∧ es.Sublist (prs n) ∧ k ≤ cnt + 101 ∧
      limF tb l_spec_smallGraph [] [.bptr 0 0 0] ((R code c cnt :: bs) :: Ms) = some ⟨OG n es, [], (R code c k :: bs) :: Ms, []⟩ := by
  obtain ⟨x, k1, hx, hk1, e1⟩ := one2 code c hc cnt (by omega) [5, 4, 5, 3, 2, 1] (by simp) bs (Ms ++ [[[I 0, .lst 0 [] true]]])
  obtain ⟨n, rfl, hn7⟩ : ∃ n : Nat, x = (n : Int) ∧ n ≤ 5 := by
    simp at hx
    exact ⟨x.toNat, by omega, by omega⟩
  obtain ⟨es, k, hs, hk, ea⟩ := ev_aGraph code c hc k1 (by omega) n (by omega) bs (Ms ++ [[[I 0, .lst 0 [] true]]])
  have e2 := ev_lim ea
  refine ⟨n, es, k, hn7, hs, by omega, ev_lim ?_⟩
  refine call_of_wp tb_spec_smallGraph rfl ?_
  repeat (first | refine wp_as ?_ | refine wp_ss ?_ | refine wp_rs (by simp [e1, e2]; with_reducible rfl) (by simp; with_reducible rfl) ?_ | refine wp_reg (by simp [e1, e2]; with_reducible rfl) (by simp; with_reducible rfl) ?_ | (refine wp_ct (t := true) ?_ (fun _ => ?_) (fun hh => nomatch hh); focus (simp [e1, e2]; done)) | (refine wp_ct (t := false) ?_ (fun hh => nomatch hh) (fun _ => ?_); focus (simp [e1, e2]; done)) | (refine wp_c (t := true) ?_ (fun _ => ?_) (fun hh => nomatch hh); focus (simp [e1, e2]; done)) | (refine wp_c (t := false) ?_ (fun hh => nomatch hh) (fun _ => ?_); focus (simp [e1, e2]; done)) | refine wp_bs ?_ | refine wp_b ?_ | refine wp_sr ?_ | refine wp_sx ?_ | refine wp_ret' ?_ | refine wp_skip' ?_ | refine wp_exit' ?_)
  simp [if_spec_smallGraph]

theorem ev_smallDegrees (code : List Int) (c : Bool) (hc : CodeOk code) (cnt : Nat) (hn : cnt ≤ 80000) (bs : Boxes) (Ms : List Boxes) :
    ∃ (d : List Int) (k : Nat), d.length ≤ 5 ∧ Low 1000 d ∧ k ≤ cnt + 200 ∧
      limF tb l_spec_smallDegrees [] [.bptr 0 0 0] ((R code c cnt :: bs) :: Ms) = some ⟨O d, [], (R code c k :: bs) :: Ms, []⟩ := by
  obtain ⟨n, es, k, hn7, hs, hk, e1⟩ := ev_smallGraph code c hc cnt (by omega) bs (Ms ++ [[]])
  have hel := prs_len (by omega) hs
  have e2 := ev_lim (ev_degrees n es false (by omega) (by omega) (prs_in hs))
  have hdl : (degs n es).length = n := by rw [degs, dfold_len]; simp
  have hlo : Low 1000 (degs n es) := by
    intro x hx
    have := dfold_bound es (List.replicate n 0) 0 (by intro x hx; have := List.eq_of_mem_replicate hx; omega) (by omega) x hx
    omega
  obtain ⟨v, k2, hv, hk2, e3⟩ := pick' code c hc k (by omega) 3 (by omega) bs (Ms ++ [[]])
  generalize degs n es = d at *
  by_cases hv0 : v = 0
  · subst hv0
    obtain ⟨d', k3, hd', hlo', hk3, e4⟩ := ev_lifted code c hc k2 (by omega) d (by omega) hlo bs (Ms ++ [[]])
    refine ⟨d', k3, by omega, hlo', by omega, ev_lim ?_⟩
    refine call_of_wp tb_spec_smallDegrees rfl ?_
    repeat (first | refine wp_as ?_ | refine wp_ss ?_ | refine wp_rs (by simp [e1, e2, e3, e4]; with_reducible rfl) (by simp; with_reducible rfl) ?_ | refine wp_reg (by simp [e1, e2, e3, e4]; with_reducible rfl) (by simp; with_reducible rfl) ?_ | (refine wp_ct (t := true) ?_ (fun _ => ?_) (fun hh => nomatch hh); focus (simp [e1, e2, e3, e4]; done)) | (refine wp_ct (t := false) ?_ (fun hh => nomatch hh) (fun _ => ?_); focus (simp [e1, e2, e3, e4]; done)) | (refine wp_c (t := true) ?_ (fun _ => ?_) (fun hh => nomatch hh); focus (simp [e1, e2, e3, e4]; done)) | (refine wp_c (t := false) ?_ (fun hh => nomatch hh) (fun _ => ?_); focus (simp [e1, e2, e3, e4]; done)) | refine wp_bs ?_ | refine wp_b ?_ | refine wp_sr ?_ | refine wp_sx ?_ | refine wp_ret' ?_ | refine wp_skip' ?_ | refine wp_exit' ?_)
    simp [if_spec_smallDegrees]
  · have hv1 : ¬ (v : Int) = 0 := by omega
    refine ⟨d, k2, by omega, hlo, by omega, ev_lim ?_⟩
    refine call_of_wp tb_spec_smallDegrees rfl ?_
    repeat (first | refine wp_as ?_ | refine wp_ss ?_ | refine wp_rs (by simp [e1, e2, e3, hv0, hv1]; with_reducible rfl) (by simp; with_reducible rfl) ?_ | refine wp_reg (by simp [e1, e2, e3, hv0, hv1]; with_reducible rfl) (by simp; with_reducible rfl) ?_ | (refine wp_ct (t := true) ?_ (fun _ => ?_) (fun hh => nomatch hh); focus (simp [e1, e2, e3, hv0, hv1]; done)) | (refine wp_ct (t := false) ?_ (fun hh => nomatch hh) (fun _ => ?_); focus (simp [e1, e2, e3, hv0, hv1]; done)) | (refine wp_c (t := true) ?_ (fun _ => ?_) (fun hh => nomatch hh); focus (simp [e1, e2, e3, hv0, hv1]; done)) | (refine wp_c (t := false) ?_ (fun hh => nomatch hh) (fun _ => ?_); focus (simp [e1, e2, e3, hv0, hv1]; done)) | refine wp_bs ?_ | refine wp_b ?_ | refine wp_sr ?_ | refine wp_sx ?_ | refine wp_ret' ?_ | refine wp_skip' ?_ | refine wp_exit' ?_)
    simp [if_spec_smallDegrees]

theorem ev_fewDegrees (code : List Int) (c : Bool) (hc : CodeOk code) (cnt : Nat) (hn : cnt ≤ 60000) (bs : Boxes) (Ms : List Boxes) :
    ∃ (d : List Int) (k : Nat), d.length ≤ 8 ∧ Low 1000 d ∧ k ≤ cnt + 400 ∧
      limF tb l_spec_fewDegrees [] [.bptr 0 0 0] ((R code c cnt :: bs) :: Ms) = some ⟨O d, [], (R code c k :: bs) :: Ms, []⟩ := by
  obtain ⟨v, k1, hv, hk1, e1⟩ := pick' code c hc cnt (by omega) 24 (by omega) bs (Ms ++ [[]])
  by_cases hv0 : v = 0
  · subst hv0
    obtain ⟨d, k2, h1, h2, h3, e2⟩ := ev_someDegrees code c hc k1 (by omega) bs (Ms ++ [[]])
    refine ⟨d, k2, h1, h2, by omega, ev_lim ?_⟩
    refine call_of_wp tb_spec_fewDegrees rfl ?_
    repeat (first | refine wp_as ?_ | refine wp_ss ?_ | refine wp_rs (by simp [e1, e2]; with_reducible rfl) (by simp; with_reducible rfl) ?_ | refine wp_reg (by simp [e1, e2]; with_reducible rfl) (by simp; with_reducible rfl) ?_ | (refine wp_ct (t := true) ?_ (fun _ => ?_) (fun hh => nomatch hh); focus (simp [e1, e2]; done)) | (refine wp_ct (t := false) ?_ (fun hh => nomatch hh) (fun _ => ?_); focus (simp [e1, e2]; done)) | (refine wp_c (t := true) ?_ (fun _ => ?_) (fun hh => nomatch hh); focus (simp [e1, e2]; done)) | (refine wp_c (t := false) ?_ (fun hh => nomatch hh) (fun _ => ?_); focus (simp [e1, e2]; done)) | refine wp_bs ?_ | refine wp_b ?_ | refine wp_sr ?_ | refine wp_sx ?_ | refine wp_ret' ?_ | refine wp_skip' ?_ | refine wp_exit' ?_)
    simp [if_spec_fewDegrees]
  · have hv1 : ¬ (v : Int) = 0 := by omega
    obtain ⟨d, k2, h1, h2, h3, e2⟩ := ev_smallDegrees code c hc k1 (by omega) bs (Ms ++ [[]])
    obtain ⟨d', k3, j1, j2, j3, e3⟩ := ev_bent code c hc k2 (by omega) d (by omega) h2 bs (Ms ++ [[]])
    refine ⟨d', k3, by omega, j2, by omega, ev_lim ?_⟩
    refine call_of_wp tb_spec_fewDegrees rfl ?_
    repeat (first | refine wp_as ?_ | refine wp_ss ?_ | refine wp_rs (by simp [e1, e2, e3, hv0, hv1]; with_reducible rfl) (by simp; with_reducible rfl) ?_ | refine wp_reg (by simp [e1, e2, e3, hv0, hv1]; with_reducible rfl) (by simp; with_reducible rfl) ?_ | (refine wp_ct (t := true) ?_ (fun _ => ?_) (fun hh => nomatch hh); focus (simp [e1, e2, e3, hv0, hv1]; done)) | (refine wp_ct (t := false) ?_ (fun hh => nomatch hh) (fun _ => ?_); focus (simp [e1, e2, e3, hv0, hv1]; done)) | (refine wp_c (t := true) ?_ (fun _ => ?_) (fun hh => nomatch hh); focus (simp [e1, e2, e3, hv0, hv1]; done)) | (refine wp_c (t := false) ?_ (fun hh => nomatch hh) (fun _ => ?_); focus (simp [e1, e2, e3, hv0, hv1]; done)) | refine wp_bs ?_ | refine wp_b ?_ | refine wp_sr ?_ | refine wp_sx ?_ | refine wp_ret' ?_ | refine wp_skip' ?_ | refine wp_exit' ?_)
    simp [if_spec_fewDegrees]

theorem ev_DrawAllRealizations (code : List Int) (c : Bool) (h : ∀ x ∈ code, 0 ≤ x ∧ x ≤ 255) (hl : code.length ≤ 10000000) :
    ∃ d : List Int, d.length ≤ 8 ∧ Low 1000 d ∧ limF tb l_spec_DrawAllRealizations [] [.lst 1 (bytes code) c] [] = some ⟨O d, [], [], []⟩ := by
  obtain ⟨c', e⟩ := ev_newReader code c [[]] (by omega)
  have e1 := ev_lim e
  obtain ⟨d, k, h1, h2, h3, e2⟩ := ev_fewDegrees (code.take 2000) c' (code_ok h) 0 (by omega) [] []
  refine ⟨d, h1, h2, ev_lim ?_⟩
  rw [show ((0 : Nat) : Int) = 0 from rfl] at e2
  refine call_of_wp tb_spec_DrawAllRealizations rfl ?_
  repeat (first | refine wp_as ?_ | refine wp_ss ?_ | refine wp_rs (by simp [e1, e2]; with_reducible rfl) (by simp; with_reducible rfl) ?_ | refine wp_reg (by simp [e1, e2]; with_reducible rfl) (by simp; with_reducible rfl) ?_ | (refine wp_ct (t := true) ?_ (fun _ => ?_) (fun hh => nomatch hh); focus (simp [e1, e2]; done)) | (refine wp_ct (t := false) ?_ (fun hh => nomatch hh) (fun _ => ?_); focus (simp [e1, e2]; done)) | (refine wp_c (t := true) ?_ (fun _ => ?_) (fun hh => nomatch hh); focus (simp [e1, e2]; done)) | (refine wp_c (t := false) ?_ (fun hh => nomatch hh) (fun _ => ?_); focus (simp [e1, e2]; done)) | refine wp_bs ?_ | refine wp_b ?_ | refine wp_sr ?_ | refine wp_sx ?_ | refine wp_ret' ?_ | refine wp_skip' ?_ | refine wp_exit' ?_)
  simp [if_spec_DrawAllRealizations]

theorem ev_spec_IsGraphic (d : List Int) (c : Bool) (hl : d.length ≤ 1000000) : Ev tb l_spec_IsGraphic [] [L d c] [] ⟨Bo (graphic d), [], [], []⟩ := by
  have e1 := ev_lim (ev_validDegrees d c hl)
  cases hv : valid d with
  | false =>
    rw [hv] at e1
    refine call_of_wp tb_spec_IsGraphic rfl ?_
    repeat (first | refine wp_as ?_ | refine wp_ss ?_ | refine wp_rs (by simp [e1]; with_reducible rfl) (by simp; with_reducible rfl) ?_ | refine wp_reg (by simp [e1]; with_reducible rfl) (by simp; with_reducible rfl) ?_ | (refine wp_ct (t := true) ?_ (fun _ => ?_) (fun hh => nomatch hh); focus (simp [e1]; done)) | (refine wp_ct (t := false) ?_ (fun hh => nomatch hh) (fun _ => ?_); focus (simp [e1]; done)) | (refine wp_c (t := true) ?_ (fun _ => ?_) (fun hh => nomatch hh); focus (simp [e1]; done)) | (refine wp_c (t := false) ?_ (fun hh => nomatch hh) (fun _ => ?_); focus (simp [e1]; done)) | refine wp_bs ?_ | refine wp_b ?_ | refine wp_sr ?_ | refine wp_sx ?_ | refine wp_ret' ?_ | refine wp_skip' ?_ | refine wp_exit' ?_)
    simp [if_spec_IsGraphic, graphic, hv]
  | true =>
    rw [hv] at e1
    have e2 := ev_lim (ev_isGraphic d c hv)
    refine call_of_wp tb_spec_IsGraphic rfl ?_
    repeat (first | refine wp_as ?_ | refine wp_ss ?_ | refine wp_rs (by simp [e1, e2]; with_reducible rfl) (by simp; with_reducible rfl) ?_ | refine wp_reg (by simp [e1, e2]; with_reducible rfl) (by simp; with_reducible rfl) ?_ | (refine wp_ct (t := true) ?_ (fun _ => ?_) (fun hh => nomatch hh); focus (simp [e1, e2]; done)) | (refine wp_ct (t := false) ?_ (fun hh => nomatch hh) (fun _ => ?_); focus (simp [e1, e2]; done)) | (refine wp_c (t := true) ?_ (fun _ => ?_) (fun hh => nomatch hh); focus (simp [e1, e2]; done)) | (refine wp_c (t := false) ?_ (fun hh => nomatch hh) (fun _ => ?_); focus (simp [e1, e2]; done)) | refine wp_bs ?_ | refine wp_b ?_ | refine wp_sr ?_ | refine wp_sx ?_ | refine wp_ret' ?_ | refine wp_skip' ?_ | refine wp_exit' ?_)
    simp [if_spec_IsGraphic]

theorem ev_FnIsGraphicCount (law : ∀ d, valid d = true → d.length ≤ 5 → graphic d = !(reals d).isEmpty) (code : List Int) (c : Bool) (h : ∀ x ∈ code, 0 ≤ x ∧ x ≤ 255) :
    Ev tb l_laws_FnIsGraphicCount [] [.lst 1 (bytes code) c] [] ⟨Bo true, [], [], []⟩ := by
  by_cases hc : (1048576 : Int) < code.length
  · refine call_of_wp tb_laws_FnIsGraphicCount rfl ?_
    repeat (first | refine wp_as ?_ | refine wp_ss ?_ | refine wp_rs (by simp [hc]; with_reducible rfl) (by simp; with_reducible rfl) ?_ | refine wp_reg (by simp [hc]; with_reducible rfl) (by simp; with_reducible rfl) ?_ | (refine wp_ct (t := true) ?_ (fun _ => ?_) (fun hh => nomatch hh); focus (simp [hc]; done)) | (refine wp_ct (t := false) ?_ (fun hh => nomatch hh) (fun _ => ?_); focus (simp [hc]; done)) | (refine wp_c (t := true) ?_ (fun _ => ?_) (fun hh => nomatch hh); focus (simp [hc]; done)) | (refine wp_c (t := false) ?_ (fun hh => nomatch hh) (fun _ => ?_); focus (simp [hc]; done)) | refine wp_bs ?_ | refine wp_b ?_ | refine wp_sr ?_ | refine wp_sx ?_ | refine wp_ret' ?_ | refine wp_skip' ?_ | refine wp_exit' ?_)
    simp [if_laws_FnIsGraphicCount]
  obtain ⟨d, hd, hlo, e1⟩ := ev_DrawAllRealizations code c h (by omega)
  have v1 := ev_lim (ev_ValidDegrees d false (by omega))
  have e2 := ev_lim (ev_IsGraphic d false (by omega))
  have e3 := ev_lim (ev_spec_IsGraphic d false (by omega))
  cases hv : valid d with
  | false =>
    rw [hv] at v1
    generalize graphic d = b at *
    refine call_of_wp tb_laws_FnIsGraphicCount rfl ?_
    repeat (first | refine wp_as ?_ | refine wp_ss ?_ | refine wp_rs (by simp [hc, e1, e2, e3, v1]; with_reducible rfl) (by simp; with_reducible rfl) ?_ | refine wp_reg (by simp [hc, e1, e2, e3, v1]; with_reducible rfl) (by simp; with_reducible rfl) ?_ | (refine wp_ct (t := true) ?_ (fun _ => ?_) (fun hh => nomatch hh); focus (simp [hc, e1, e2, e3, v1]; done)) | (refine wp_ct (t := false) ?_ (fun hh => nomatch hh) (fun _ => ?_); focus (simp [hc, e1, e2, e3, v1]; done)) | (refine wp_c (t := true) ?_ (fun _ => ?_) (fun hh => nomatch hh); focus (simp [hc, e1, e2, e3, v1]; done)) | (refine wp_c (t := false) ?_ (fun hh => nomatch hh) (fun _ => ?_); focus (simp [hc, e1, e2, e3, v1]; done)) | refine wp_bs ?_ | refine wp_b ?_ | refine wp_sr ?_ | refine wp_sx ?_ | refine wp_ret' ?_ | refine wp_skip' ?_ | refine wp_exit' ?_)
    simp [if_laws_FnIsGraphicCount]
  | true =>
  rw [hv] at v1
  by_cases h5 : (5 : Int) < d.length
  · generalize graphic d = b at *
    refine call_of_wp tb_laws_FnIsGraphicCount rfl ?_
    repeat (first | refine wp_as ?_ | refine wp_ss ?_ | refine wp_rs (by simp [hc, e1, e2, e3, v1, h5]; with_reducible rfl) (by simp; with_reducible rfl) ?_ | refine wp_reg (by simp [hc, e1, e2, e3, v1, h5]; with_reducible rfl) (by simp; with_reducible rfl) ?_ | (refine wp_ct (t := true) ?_ (fun _ => ?_) (fun hh => nomatch hh); focus (simp [hc, e1, e2, e3, v1, h5]; done)) | (refine wp_ct (t := false) ?_ (fun hh => nomatch hh) (fun _ => ?_); focus (simp [hc, e1, e2, e3, v1, h5]; done)) | (refine wp_c (t := true) ?_ (fun _ => ?_) (fun hh => nomatch hh); focus (simp [hc, e1, e2, e3, v1, h5]; done)) | (refine wp_c (t := false) ?_ (fun hh => nomatch hh) (fun _ => ?_); focus (simp [hc, e1, e2, e3, v1, h5]; done)) | refine wp_bs ?_ | refine wp_b ?_ | refine wp_sr ?_ | refine wp_sx ?_ | refine wp_ret' ?_ | refine wp_skip' ?_ | refine wp_exit' ?_)
    simp [if_laws_FnIsGraphicCount]
  have hlw := law d hv (by omega)
  have e4 := ev_lim (ev_AllRealizations d false hv (by omega))
  rw [hlw] at e2 e3
  generalize reals d = gl at *
  cases gl with
  | nil =>
    simp only [ngl, List.isEmpty_nil, Bool.not_true] at e2 e3 e4
    refine call_of_wp tb_laws_FnIsGraphicCount rfl ?_
    repeat (first | refine wp_as ?_ | refine wp_ss ?_ | refine wp_rs (by simp [hc, e1, e2, e3, v1, h5, e4]; with_reducible rfl) (by simp; with_reducible rfl) ?_ | refine wp_reg (by simp [hc, e1, e2, e3, v1, h5, e4]; with_reducible rfl) (by simp; with_reducible rfl) ?_ | (refine wp_ct (t := true) ?_ (fun _ => ?_) (fun hh => nomatch hh); focus (simp [hc, e1, e2, e3, v1, h5, e4]; done)) | (refine wp_ct (t := false) ?_ (fun hh => nomatch hh) (fun _ => ?_); focus (simp [hc, e1, e2, e3, v1, h5, e4]; done)) | (refine wp_c (t := true) ?_ (fun _ => ?_) (fun hh => nomatch hh); focus (simp [hc, e1, e2, e3, v1, h5, e4]; done)) | (refine wp_c (t := false) ?_ (fun hh => nomatch hh) (fun _ => ?_); focus (simp [hc, e1, e2, e3, v1, h5, e4]; done)) | refine wp_bs ?_ | refine wp_b ?_ | refine wp_sr ?_ | refine wp_sx ?_ | refine wp_ret' ?_ | refine wp_skip' ?_ | refine wp_exit' ?_)
    simp [if_laws_FnIsGraphicCount]
  | cons g gl =>
    simp only [ngl, List.isEmpty_cons, Bool.not_false] at e2 e3 e4
    have h0 : (0 : Int) < (gl.length : Int) + 1 := by omega
    refine call_of_wp tb_laws_FnIsGraphicCount rfl ?_
    repeat (first | refine wp_as ?_ | refine wp_ss ?_ | refine wp_rs (by simp [hc, e1, e2, e3, v1, h5, e4, h0]; with_reducible rfl) (by simp; with_reducible rfl) ?_ | refine wp_reg (by simp [hc, e1, e2, e3, v1, h5, e4, h0]; with_reducible rfl) (by simp; with_reducible rfl) ?_ | (refine wp_ct (t := true) ?_ (fun _ => ?_) (fun hh => nomatch hh); focus (simp [hc, e1, e2, e3, v1, h5, e4, h0]; done)) | (refine wp_ct (t := false) ?_ (fun hh => nomatch hh) (fun _ => ?_); focus (simp [hc, e1, e2, e3, v1, h5, e4, h0]; done)) | (refine wp_c (t := true) ?_ (fun _ => ?_) (fun hh => nomatch hh); focus (simp [hc, e1, e2, e3, v1, h5, e4, h0]; done)) | (refine wp_c (t := false) ?_ (fun hh => nomatch hh) (fun _ => ?_); focus (simp [hc, e1, e2, e3, v1, h5, e4, h0]; done)) | refine wp_bs ?_ | refine wp_b ?_ | refine wp_sr ?_ | refine wp_sx ?_ | refine wp_ret' ?_ | refine wp_skip' ?_ | refine wp_exit' ?_)
    simp [if_laws_FnIsGraphicCount]

end Go.Idl

namespace Go.Idl

def insP (x : Nat × Nat) : List (Nat × Nat) → List (Nat × Nat)
  | [] => [x]
  | y :: r => if Nat.ble y.1 x.1 then x :: y :: r else y :: insP x r

/-- Pairs by laying off the first, again and again. -/
def hh : Nat → List (Nat × Nat) → List (Nat × Nat)
  | 0, _ => []
  | _ + 1, [] => []
  | m + 1, x :: r => (r.take x.1).map (fun y : Nat × Nat => (x.2, y.2)) ++ hh m ((((r.take x.1).map (fun y : Nat × Nat => (y.1 - 1, y.2)) ++ r.drop x.1 : List (Nat × Nat))).foldr insP [])

def inH (h : List (Nat × Nat)) (e : Int × Int) : Bool := h.any fun x => (Nat.beq x.1 e.1.toNat && Nat.beq x.2 e.2.toNat) || (Nat.beq x.2 e.1.toNat && Nat.beq x.1 e.2.toNat)

def hhG (s : List Int) : List (Int × Int) := (prs s.length).filter (inH (hh 8 (s.zipIdx.map fun x => (x.1.toNat, x.2))))

def chkR (s : List Int) : Bool := !(decide (s.sum % 2 = 0) && noneNeg (slS s)) || decide (degs s.length (hhG s) = s)

set_option maxRecDepth 100000 in
theorem chkR_all : (List.range 8).all (fun n => allD chkR n (n - 1) []) = true := by kernel_rfl

/- The search finds all. -/

theorem getD_zero_all {left : List Int} {N : Nat} (hl : left.length = N) : left.all (fun x => decide (x = 0)) = true ↔ ∀ v, v < N → (0 : Int) = left.getD v 0 := by
  rw [List.all_eq_true]
  constructor
  · intro h v hv
    rw [List.getD_eq_getElem?_getD, List.getElem?_eq_getElem (by omega)]
    have := of_decide_eq_true (h _ (List.getElem_mem (show v < left.length by omega)))
    simp [this]
  · intro h x hx
    obtain ⟨v, hv, rfl⟩ := List.getElem_of_mem hx
    have := h v (by omega)
    rw [List.getD_eq_getElem?_getD, List.getElem?_eq_getElem hv] at this
    simpa using this.symm

theorem decAt_get {o : List Int} {i v : Nat} (hv : v < o.length) : (decAt o i).getD v 0 = o.getD v 0 - (if i = v then 1 else 0) := by
  rw [decAt, List.getD_eq_getElem?_getD, List.getElem?_set]
  by_cases h : i = v
  · subst h; simp [hv, List.getD_eq_getElem?_getD]
  · simp [h, List.getD_eq_getElem?_getD]

theorem inc_nonneg (v : Nat) (e : Int × Int) : 0 ≤ inc v e := by simp only [inc]; split <;> split <;> decide

theorem mem_subs {N : Nat} : ∀ (r : List (Int × Int)) (left : List Int) (ch g : List (Int × Int)), (∀ e ∈ r, 0 ≤ e.1 ∧ e.1 < e.2 ∧ e.2 < N) → left.length = N →
    (g ∈ subs r left ch ↔ ∃ s : List (Int × Int), s.Sublist r ∧ g = ch ++ s ∧ ∀ v, v < N → deg s v = left.getD v 0)
  | [], left, ch, g, _, hl => by
    rw [subs]
    constructor
    · intro h
      split at h
      · rename_i hz
        simp at h
        subst h
        exact ⟨[], List.Sublist.refl _, by simp, fun v hv => (getD_zero_all hl).1 hz v hv⟩
      · simp at h
    · rintro ⟨s, hs, rfl, hd⟩
      have : s = [] := by simpa using hs
      subst this
      rw [if_pos ((getD_zero_all hl).2 fun v hv => hd v hv)]
      simp
  | e :: r, left, ch, g, hr, hl => by
    have he := hr e (by simp)
    have hr' : ∀ x ∈ r, 0 ≤ x.1 ∧ x.1 < x.2 ∧ x.2 < N := fun x hx => hr x (by simp [hx])
    have hdl : (decAt (decAt left e.1.toNat) e.2.toNat).length = N := by simp [decAt, hl]
    have hget : ∀ v, v < N → (decAt (decAt left e.1.toNat) e.2.toNat).getD v 0 = left.getD v 0 - inc v e := fun v hv => by
      rw [decAt_get (by simp [decAt]; omega), decAt_get (by omega), inc]
      have c1 : (e.1.toNat = v) = (e.1 = (v : Int)) := by rw [eq_iff_iff]; omega
      have c2 : (e.2.toNat = v) = (e.2 = (v : Int)) := by rw [eq_iff_iff]; omega
      simp only [c1, c2]; omega
    rw [subs, List.mem_append]
    constructor
    · rintro (h | h)
      · split at h
        rotate_left
        · simp at h
        obtain ⟨s, hs, rfl, hd⟩ := (mem_subs r _ _ g hr' hdl).1 h
        refine ⟨e :: s, hs.cons_cons e, by simp, fun v hv => ?_⟩
        have h1 := hd v hv
        rw [hget v hv] at h1
        rw [deg, S_cons]
        have h2 : S s (inc v) = left.getD v 0 - inc v e := h1
        rw [h2]; omega
      · obtain ⟨s, hs, rfl, hd⟩ := (mem_subs r _ _ g hr' hl).1 h
        exact ⟨s, hs.cons e, rfl, hd⟩
    · rintro ⟨s, hs, rfl, hd⟩
      rcases List.sublist_cons_iff.1 hs with hs2 | ⟨s', rfl, hs2⟩
      · exact .inr ((mem_subs r _ _ _ hr' hl).2 ⟨s, hs2, rfl, hd⟩)
      · refine .inl ?_
        have hd' : ∀ v, v < N → inc v e + deg s' v = left.getD v 0 := fun v hv => by
          rw [← hd v hv, deg, deg, S_cons]
        have pos : ∀ x : Int, 0 ≤ x → x < N → (e.1 = x ∨ e.2 = x) → 0 < left.getD x.toNat 0 := fun x h0 h1 h2 => by
          have h3 := hd' x.toNat (by omega)
          have h4 : 0 ≤ deg s' x.toNat := S_nonneg fun y _ => inc_nonneg _ y
          have h5 : 1 ≤ inc x.toNat e := by
            simp only [inc, show ((x.toNat : Nat) : Int) = x by omega]
            rcases h2 with h2 | h2
            · rw [if_pos h2]; split <;> decide
            · rw [if_pos h2]; split <;> decide
          omega
        rw [if_pos ⟨pos e.1 (by omega) (by omega) (.inl rfl), pos e.2 (by omega) (by omega) (.inr rfl)⟩]
        refine (mem_subs r _ _ _ hr' hdl).2 ⟨s', hs2, by simp, fun v hv => ?_⟩
        rw [hget v hv, ← hd' v hv]; omega

theorem ite_iff {α : Type} {p q : Prop} [Decidable p] [Decidable q] (h : p ↔ q) (a b : α) : (if p then a else b) = if q then a else b := by
  by_cases hp : p
  · rw [if_pos hp, if_pos (h.1 hp)]
  · rw [if_neg hp, if_neg fun hq => hp (h.2 hq)]

/- Degrees of a graph of a relation. -/

def mk (u v : Nat) : Int × Int := (min (u : Int) v, max (u : Int) v)

theorem inc_mk_all : (List.range 8).all (fun n => (prs n).all fun e => (List.range n).all fun v => decide (inc v e = S (List.range n) (fun u => if u = v then 0 else if e = mk u v then 1 else 0))) = true := by decide +kernel

theorem inc_mk {n : Nat} (hn : n ≤ 7) {e : Int × Int} (he : e ∈ prs n) {v : Nat} (hv : v < n) : inc v e = S (List.range n) (fun u => if u = v then 0 else if e = mk u v then 1 else 0) := by
  have := List.all_eq_true.1 (List.all_eq_true.1 (List.all_eq_true.1 inc_mk_all n (List.mem_range.2 (by omega))) e he) v (List.mem_range.2 hv)
  exact of_decide_eq_true this

theorem S_ite {α : Type} (l : List α) (p : α → Bool) (f : α → Int) : S (l.filter p) f = S l (fun a => if p a then f a else 0) := by
  induction l with
  | nil => rfl
  | cons a l ih =>
    rw [List.filter_cons, S_cons]
    split <;> rename_i h
    · rw [S_cons, ih]
    · rw [ih]; omega

theorem mk_mem {n u v : Nat} (hu : u < n) (hv : v < n) (h : u ≠ v) : mk u v ∈ prs n := mem_prs.2 (by simp only [mk]; omega)

theorem deg_filter {n : Nat} (hn : n ≤ 7) (p : Int × Int → Bool) {v : Nat} (hv : v < n) : deg ((prs n).filter p) v = S (List.range n) (fun u => if u = v then 0 else if p (mk u v) then 1 else 0) := by
  rw [deg, S_ite, S_congr (g := fun e => S (List.range n) (fun u => if u = v then 0 else if e = mk u v then (if p (mk u v) then 1 else 0) else 0)) fun e he => ?_, S_swap]
  · refine S_congr fun u hu => ?_
    have hu := List.mem_range.1 hu
    by_cases huv : u = v
    · simp only [huv, if_true]; exact S_zero _
    · simp only [if_neg huv]
      have hm := mk_mem hu hv huv
      have h1 := S_one (pw_nodup (prs_pw n)) (mk u v)
      rw [if_pos hm] at h1
      by_cases hp : p (mk u v) = true
      · simp only [hp, if_true]
        exact Eq.trans (S_congr fun e _ => ite_iff eq_comm _ _) h1
      · simp only [if_neg hp, ite_self]; exact S_zero _
  · rw [inc_mk hn he hv]
    by_cases hp : p e = true
    · rw [if_pos hp]
      refine S_congr fun u _ => ?_
      by_cases huv : u = v
      · simp [huv]
      · simp only [if_neg huv]
        by_cases hem : e = mk u v
        · rw [if_pos hem, if_pos hem, ← hem, if_pos hp]
        · rw [if_neg hem, if_neg hem]
    · rw [if_neg hp]
      symm
      rw [S_congr (g := fun _ => 0), S_zero]
      intro u _
      by_cases huv : u = v
      · simp [huv]
      · simp only [if_neg huv]
        by_cases hem : e = mk u v
        · rw [if_pos hem, ← hem, if_neg hp]
        · rw [if_neg hem]

theorem mk_comm (u v : Nat) : mk u v = mk v u := Prod.ext (by simp only [mk]; omega) (by simp only [mk]; omega)

theorem degs_filter {n : Nat} (p : Int × Int → Bool) : degs n ((prs n).filter p) = (List.range n).map (deg ((prs n).filter p)) :=
  degs_eq fun e he => by have := mem_prs.1 (List.mem_filter.1 he).1; omega

theorem graphic_real {d : List Int} (hg : graphic d = true) : ∃ p, degs d.length ((prs d.length).filter p) = d := by
  have hv : valid d = true := by simp only [graphic, Bool.and_eq_true] at hg; exact hg.1.1
  have h1 := (valid_few hv).1
  have h2 := valid_mem hv
  have hc := List.all_eq_true.1 chkR_all d.length (List.mem_range.2 (by omega))
  have h3 := allD_ok chkR d.length (d.length - 1) [] (fall d) hc (fall_len d) (fall_desc d) (fun x hx => by
    have := h2 x (fall_mem.1 hx)
    omega)
  obtain ⟨n, hn⟩ : ∃ n, n = d.length := ⟨_, rfl⟩
  simp only [graphic, hv, Bool.true_and, Bool.and_eq_true, decide_eq_true_eq] at hg
  have hg2 : noneNeg (slS (fall d)) = true := by rw [← slacks_S]; exact hg.2
  simp only [List.reverse_nil, List.nil_append, chkR, fall_sum, hg.1, hg2, decide_true, Bool.and_self, Bool.not_true, Bool.false_or, decide_eq_true_eq, fall_len, hhG] at h3
  generalize inH (hh 8 ((fall d).zipIdx.map fun x => (x.1.toNat, x.2))) = p0 at h3
  have hd : d = (List.range n).map fun v => d.getD v 0 := by
    refine List.ext_getElem (by simp [hn]) fun i k1 k2 => ?_
    simp [List.getD_eq_getElem?_getD, List.getElem?_eq_getElem k1]
  obtain ⟨π, hπ, hfp⟩ := perm_map_inv (f := fun v => d.getD v 0) (fall_perm d) hd
  have hπn : π.Nodup := hπ.nodup_iff.2 List.nodup_range
  have hπl : π.length = n := by rw [hπ.length_eq, List.length_range]
  have hσ : ∀ v, v < n → π.idxOf v < n ∧ π[π.idxOf v]? = some v := fun v hv => by
    have hm : v ∈ π := hπ.mem_iff.2 (List.mem_range.2 hv)
    have := List.idxOf_lt_length_of_mem hm
    exact ⟨by omega, by rw [List.getElem?_eq_getElem this, List.getElem_idxOf]⟩
  have hinj : ∀ u v, u < n → v < n → (π.idxOf u = π.idxOf v ↔ u = v) := fun u v hu hv => by
    constructor
    · intro h
      have h4 := (hσ u hu).2
      rw [h, (hσ v hv).2] at h4
      simpa using h4.symm
    · rintro rfl; rfl
  have hmap : π.map (π.idxOf ·) = List.range n := by
    refine List.ext_getElem (by simp [hπl]) fun i k1 k2 => ?_
    rw [List.getElem_map, List.getElem_range]
    exact hπn.idxOf_getElem i (by simpa using k1)
  refine ⟨fun e => p0 (mk (π.idxOf e.1.toNat) (π.idxOf e.2.toNat)), ?_⟩
  rw [← hn]
  rw [degs_filter]
  conv => rhs; rw [hd]
  refine List.map_congr_left fun v hv => ?_
  have hv := List.mem_range.1 hv
  rw [← hn] at h3
  rw [deg_filter (by omega) _ hv]
  have hp : ∀ u, p0 (mk (π.idxOf (mk u v).1.toNat) (π.idxOf (mk u v).2.toNat)) = p0 (mk (π.idxOf u) (π.idxOf v)) := fun u => by
    rcases Nat.le_total u v with h | h
    · rw [show (mk u v).1.toNat = u by simp only [mk]; omega, show (mk u v).2.toNat = v by simp only [mk]; omega]
    · rw [show (mk u v).1.toNat = v by simp only [mk]; omega, show (mk u v).2.toNat = u by simp only [mk]; omega, mk_comm]
  have e1 : S (List.range n) (fun u => if u = v then 0 else if p0 (mk (π.idxOf (mk u v).1.toNat) (π.idxOf (mk u v).2.toNat)) = true then (1 : Int) else 0) =
      S (List.range n) (fun u => (fun i => if i = π.idxOf v then 0 else if p0 (mk i (π.idxOf v)) = true then (1 : Int) else 0) (π.idxOf u)) := by
    refine S_congr fun u hu => ?_
    rw [hp u]
    exact ite_iff (hinj u v (List.mem_range.1 hu) hv).symm _ _
  rw [e1, ← S_perm hπ]
  have e2 := S_map π (π.idxOf ·) (fun i => if i = π.idxOf v then 0 else if p0 (mk i (π.idxOf v)) = true then (1 : Int) else 0)
  rw [hmap] at e2
  refine e2.symm.trans ?_
  rw [← deg_filter (by omega) p0 (hσ v hv).1]
  have h5 : (degs n ((prs n).filter p0))[π.idxOf v]? = some (deg ((prs n).filter p0) (π.idxOf v)) := by
    rw [degs_filter, List.getElem?_map, List.getElem?_range (hσ v hv).1]; rfl
  rw [h3, hfp, List.getElem?_map, (hσ v hv).2] at h5
  simpa using h5.symm

/-- Graphic degrees are those of a graph. -/
theorem real_ex {d : List Int} (hg : graphic d = true) : ∃ es, vGraph d.length es = true ∧ degs d.length es = d := by
  obtain ⟨p, hp⟩ := graphic_real hg
  have hv : valid d = true := by simp only [graphic, Bool.and_eq_true] at hg; exact hg.1.1
  exact ⟨_, filter_vG (valid_few hv).1 p, hp⟩

theorem graphic_iff_real {d : List Int} (h7 : d.length ≤ 7) : graphic d = true ↔ ∃ es, vGraph d.length es = true ∧ degs d.length es = d := by
  refine ⟨real_ex, ?_⟩
  rintro ⟨es, h1, h2⟩
  have := degs_graphic h1
  rwa [h2] at this

end Go.Idl

namespace Go.Idl

theorem deg_degs {n : Nat} {s : List (Int × Int)} (hs : s.Sublist (prs n)) {d : List Int} (hl : d.length = n) : (∀ v, v < n → deg s v = d.getD v 0) ↔ degs n s = d := by
  rw [degs_eq (prs_in hs)]
  constructor
  · intro h
    refine List.ext_getElem (by simp [hl]) fun v h1 h2 => ?_
    rw [List.getElem_map, List.getElem_range, h v (by omega), List.getD_eq_getElem?_getD, List.getElem?_eq_getElem h2]; rfl
  · intro h v hv
    rw [← h, List.getD_eq_getElem?_getD, List.getElem?_map, List.getElem?_range hv]; rfl

/-- The search finds the valid graphs with the degrees. -/
theorem mem_reals {d : List Int} (h7 : d.length ≤ 7) (g : List (Int × Int)) : g ∈ reals d ↔ vGraph d.length g = true ∧ degs d.length g = d := by
  rw [reals, mem_subs (N := d.length) _ _ _ _ (fun e he => mem_prs.1 he) rfl]
  constructor
  · rintro ⟨s, hs, rfl, hd⟩
    exact ⟨vG_iff.2 ⟨(prs_pw _).sublist hs, fun e he => hs.mem he, h7⟩, (deg_degs hs rfl).1 hd⟩
  · rintro ⟨h1, h2⟩
    exact ⟨g, vG_sub h1, rfl, (deg_degs (vG_sub h1) rfl).2 h2⟩

theorem countLaw (d : List Int) (_hv : valid d = true) (h5 : d.length ≤ 5) : graphic d = !(reals d).isEmpty := by
  rw [Bool.eq_iff_iff, graphic_iff_real (by omega)]
  constructor
  · rintro ⟨es, h1, h2⟩
    have := (mem_reals (by omega) es).2 ⟨h1, h2⟩
    cases hr : reals d with
    | nil => rw [hr] at this; simp at this
    | cons _ _ => rfl
  · intro h
    cases hr : reals d with
    | nil => rw [hr] at h; cases h
    | cons g r => exact ⟨g, (mem_reals (by omega) g).1 (by rw [hr]; simp)⟩

end Go.Idl

