/- Part 6 of a proof by an ideal interpreter of the code: its definitions and lemmas. Conditions: none. -/
import Derived.KernelRfl
import Derived.Test.YtkhdhbnklmfcdaaA5
set_option linter.all false
set_option linter.unusedVariables false
set_option linter.unusedSimpArgs false
namespace Go.Idl

open Go

def rI (N : Nat) : List Int := (List.range N).map fun v : Nat => (v : Int)

theorem rI_len (N : Nat) : (rI N).length = N := by simp [rI]

theorem mem_rI {N : Nat} {x : Int} : x ∈ rI N ↔ 0 ≤ x ∧ x < N := by
  simp only [rI, List.mem_map, List.mem_range]
  exact ⟨fun ⟨v, h1, h2⟩ => by omega, fun h => ⟨x.toNat, by omega, by omega⟩⟩

theorem filter_len {α} (p : α → Bool) (l : List α) : (l.filter p).length + (l.filter fun a => !p a).length = l.length := by
  induction l with
  | nil => rfl
  | cons a l ih => simp only [List.filter_cons]; cases p a <;> simp <;> omega

def busy (rest gone : List Int) (v : Nat) : Bool := decide ((v : Int) ∈ rest) || decide ((v : Int) ∈ gone)

/-- The first vertex from v on that is not busy. -/
def freeV (rest gone : List Int) : Nat → Nat → Nat
  | 0, v => v
  | m + 1, v => if busy rest gone v then freeV rest gone m (v + 1) else v

def ctree (N : Nat) : List Int → List Int → List (Int × Int) → List (Int × Int) × List Int
  | [], gone, es => (es, gone)
  | c :: r, gone, es => ctree N r (gone ++ [(freeV (c :: r) gone N 0 : Int)]) (insE (min (freeV (c :: r) gone N 0 : Int) c, max (freeV (c :: r) gone N 0 : Int) c) es)

def lasts (N : Nat) (gone : List Int) : List Int := (rI N).filter fun v => !decide (v ∈ gone)

/-- The edges of the tree of a code. -/
def codeT (code : List Int) : List (Int × Int) :=
  let q := ctree (code.length + 2) code [] []
  let l := lasts (code.length + 2) q.2
  insE (min (l.getD 0 0) (l.getD 1 0), max (l.getD 0 0) (l.getD 1 0)) q.1

theorem freeV_ok (rest gone : List Int) : ∀ (m v w : Nat), v ≤ w → w < v + m → busy rest gone w = false → freeV rest gone m v < v + m ∧ busy rest gone (freeV rest gone m v) = false
  | 0, v, w, h1, h2, _ => by omega
  | m + 1, v, w, h1, h2, h3 => by
    rw [freeV]
    cases hb : busy rest gone v with
    | false => rw [if_neg (by simp)]; exact ⟨by omega, hb⟩
    | true =>
      rw [if_pos rfl]
      have hne : w ≠ v := by rintro rfl; rw [hb] at h3; cases h3
      have := freeV_ok rest gone m (v + 1) w (by omega) (by omega) h3
      exact ⟨by omega, this.2⟩

theorem rangeI_nodup (N : Nat) : (rI N).Nodup := by
  rw [rI, List.Nodup, List.pairwise_map]
  exact List.nodup_range.imp fun h e => h (by omega)

theorem free_ex {N : Nat} {rest gone : List Int} (h : rest.length + gone.length < N) : ∃ w, w < N ∧ busy rest gone w = false := by
  refine Classical.byContradiction fun hn => ?_
  have hall : ∀ x ∈ rI N, x ∈ rest ++ gone := fun x hx => by
    have hx' := mem_rI.1 hx
    obtain ⟨v, rfl⟩ := Int.eq_ofNat_of_zero_le hx'.1
    have hv : v < N := by omega
    have hb : busy rest gone v = true := by
      cases hq : busy rest gone v with
      | true => rfl
      | false => exact absurd ⟨v, hv, hq⟩ hn
    simp only [busy, Bool.or_eq_true, decide_eq_true_eq] at hb
    exact List.mem_append.2 hb
  have := sub_len _ _ (rangeI_nodup N) hall
  rw [rI_len, List.length_append] at this
  omega

theorem lasts_len {N : Nat} {gone : List Int} (h : gone.length + 2 ≤ N) : 2 ≤ (lasts N gone).length := by
  have h1 := sub_len ((rI N).filter fun v => decide (v ∈ gone)) gone ((rangeI_nodup N).filter _) (fun x hx => by simpa using (List.mem_filter.1 hx).2)
  have h2 := filter_len (fun v => decide (v ∈ gone)) (rI N)
  rw [rI_len] at h2
  simp only [lasts]
  omega

theorem lasts_mem {N : Nat} {gone : List Int} {x : Int} (h : x ∈ lasts N gone) : 0 ≤ x ∧ x < N := by
  exact mem_rI.1 (List.mem_filter.1 h).1

/-- A drawn code. -/
structure Code7 (code : List Int) : Prop where
  len : code.length ≤ 5
  el : ∀ x ∈ code, 0 ≤ x ∧ x < (code.length : Int) + 2

theorem ct_in (code : List Int) (c : Bool) (N i : Nat) (left gone : List Int) (Bs : Boxes) (hN : N ≤ 7) (hl : left.length = N) (hg : gone.length ≤ 7) (hq : ∀ v, v < N → (0 < left.getD v 0 ↔ (v : Int) ∈ code.drop i)) : ∀ (m v : Nat), v + m = N → (∃ w, v ≤ w ∧ w < N ∧ busy (code.drop i) gone w = false) →
    wp tb (.loop ic_spec_codeTree_l15) { T := [(0, L code c), (2, .bptr 0 0 0), (3, I N), (4, .bptr 0 1 0), (5, O left), (7, O gone), (8, I i), (9, I v)], loc := Bs, M := [] }
      (fun ex st => ex = .exit 4 ∧ st = { T := [(0, L code c), (2, .bptr 0 0 0), (3, I N), (4, .bptr 0 1 0), (5, O left), (7, O gone), (8, I i), (9, I (freeV (code.drop i) gone m v)), (56, Bo false)], loc := Bs, M := [] }) := by
  intro m
  induction m with
  | zero => intro v hv ⟨w, h1, h2, _⟩; omega
  | succ m ih =>
    intro v hv ⟨w, h1, h2, h3⟩
    have hv2 : v < left.length := by omega
    have hv3 : v < N := by omega
    have hvq := hq v hv3
    have hgt : left.getD v 0 = left[v] := by simp [List.getD_eq_getElem?_getD, List.getElem?_eq_getElem hv2]
    rw [hgt] at hvq
    have w2 : IntKind.i64.wrap ((v : Int) + 1) = ((v + 1 : Nat) : Int) := wrapS (by omega)
    have e1 := fun cc => ev_lim (ev_hasInt gone cc (v : Int) (by omega))
    have hgo : gone.take gone.length = gone := List.take_of_length_le (Nat.le_refl _)
    rw [freeV]
    by_cases hl0 : 0 < left[v]
    · have hb : busy (code.drop i) gone v = true := by simp only [busy, Bool.or_eq_true, decide_eq_true_eq]; exact .inl (hvq.1 hl0)
      have hne : w ≠ v := by rintro rfl; rw [hb] at h3; cases h3
      rw [hb, if_pos rfl]
      refine wp_loop ?_
      repeat (first | apply wp_as | apply wp_ss | refine wr (by simp [hv2, hl0, w2]; with_reducible rfl) ?_ | refine wq (by simp [hv2, hl0, w2]; with_reducible rfl) ?_ | refine wt (by simpa [hv2, hl0, w2]) ?_ | refine wf (by simpa [hv2, hl0, w2]) ?_ | refine xt (by simpa [hv2, hl0, w2]) ?_ | refine xf (by simpa [hv2, hl0, w2]) ?_ | apply wp_bs | apply wp_b | refine wp_sr ?_ | refine wp_sx ?_ | refine wp_ret' ?_ | refine wp_skip' ?_ | refine wp_exit' ?_)
      exact ih (v + 1) (by omega) ⟨w, by omega, h2, h3⟩
    have hr : ¬ (v : Int) ∈ code.drop i := fun h => hl0 (hvq.2 h)
    by_cases hgv : (v : Int) ∈ gone
    · have hb : busy (code.drop i) gone v = true := by simp only [busy, Bool.or_eq_true, decide_eq_true_eq]; exact .inr hgv
      have hne : w ≠ v := by rintro rfl; rw [hb] at h3; cases h3
      rw [hb, if_pos rfl]
      refine wp_loop ?_
      repeat (first | apply wp_as | apply wp_ss | refine wr (by simp [hv2, hl0, w2, e1, hgv, hgo]; with_reducible rfl) ?_ | refine wq (by simp [hv2, hl0, w2, e1, hgv, hgo]; with_reducible rfl) ?_ | refine wt (by simpa [hv2, hl0, w2, e1, hgv, hgo]) ?_ | refine wf (by simpa [hv2, hl0, w2, e1, hgv, hgo]) ?_ | refine xt (by simpa [hv2, hl0, w2, e1, hgv, hgo]) ?_ | refine xf (by simpa [hv2, hl0, w2, e1, hgv, hgo]) ?_ | apply wp_bs | apply wp_b | refine wp_sr ?_ | refine wp_sx ?_ | refine wp_ret' ?_ | refine wp_skip' ?_ | refine wp_exit' ?_)
      exact ih (v + 1) (by omega) ⟨w, by omega, h2, h3⟩
    · have hb : busy (code.drop i) gone v = false := by simp only [busy, Bool.or_eq_false_iff, decide_eq_false_iff_not]; exact ⟨hr, hgv⟩
      rw [hb, if_neg (by simp)]
      refine wp_loop ?_
      repeat (first | apply wp_as | apply wp_ss | refine wr (by simp [hv2, hl0, w2, e1, hgv, hgo]; with_reducible rfl) ?_ | refine wq (by simp [hv2, hl0, w2, e1, hgv, hgo]; with_reducible rfl) ?_ | refine wt (by simpa [hv2, hl0, w2, e1, hgv, hgo]) ?_ | refine wf (by simpa [hv2, hl0, w2, e1, hgv, hgo]) ?_ | refine xt (by simpa [hv2, hl0, w2, e1, hgv, hgo]) ?_ | refine xf (by simpa [hv2, hl0, w2, e1, hgv, hgo]) ?_ | apply wp_bs | apply wp_b | refine wp_sr ?_ | refine wp_sx ?_ | refine wp_ret' ?_ | refine wp_skip' ?_ | refine wp_exit' ?_)
      exact ⟨rfl, rfl⟩

theorem count_take_succ {xs : List Int} {i : Nat} (h : i < xs.length) (v : Int) : (((xs.take (i + 1)).count v : Nat) : Int) = ((xs.take i).count v : Nat) + (if xs[i] = v then 1 else 0) := by
  rw [List.take_succ_eq_append_getElem h, List.count_append, List.count_cons, List.count_nil]
  by_cases hq : xs[i] = v <;> simp [hq]

theorem count_drop_succ {xs : List Int} {i : Nat} (h : i < xs.length) (v : Int) : (((xs.drop i).count v : Nat) : Int) = ((xs.drop (i + 1)).count v : Nat) + (if xs[i] = v then 1 else 0) := by
  rw [List.drop_eq_getElem_cons h, List.count_cons]
  by_cases hq : xs[i] = v <;> simp [hq]

theorem getD_set {xs : List Int} {p v : Nat} {y : Int} (hv : v < xs.length) : (xs.set p y).getD v 0 = if p = v then y else xs.getD v 0 := by
  rw [List.getD_eq_getElem?_getD, List.getElem?_set]
  by_cases h : p = v
  · subst h; simp [hv]
  · simp [h, List.getD_eq_getElem?_getD]

theorem ct_left (code : List Int) (c : Bool) (hc : Code7 code) (Bs : Boxes) : ∀ (m i : Nat) (left : List Int), i + m = code.length → left.length = code.length + 2 → (∀ v, v < code.length + 2 → left.getD v 0 = ((code.take i).count (v : Int) : Nat)) →
    wp tb (.loop ic_spec_codeTree_l8) { T := [(0, L code c), (2, .bptr 0 0 0), (3, I ((code.length : Int) + 2)), (4, .bptr 0 1 0), (5, O left), (6, I i)], loc := Bs, M := [] }
      (fun ex st => ex = .exit 0 ∧ ∃ left : List Int, (left.length = code.length + 2 ∧ ∀ v, v < code.length + 2 → left.getD v 0 = (code.count (v : Int) : Nat)) ∧ st = { T := [(0, L code c), (2, .bptr 0 0 0), (3, I ((code.length : Int) + 2)), (4, .bptr 0 1 0), (5, O left), (6, I code.length), (23, Bo false)], loc := Bs, M := [] }) := by
  intro m
  induction m with
  | zero =>
    intro i left hi hl hq
    have h3 : i = code.length := hi
    subst h3
    rw [List.take_length] at hq
    refine wp_loop ?_
    repeat (first | apply wp_as | apply wp_ss | refine wr (by simp; with_reducible rfl) ?_ | refine wq (by simp; with_reducible rfl) ?_ | refine wt (by simpa) ?_ | refine wf (by simpa) ?_ | refine xt (by simpa) ?_ | refine xf (by simpa) ?_ | apply wp_bs | apply wp_b | refine wp_sr ?_ | refine wp_sx ?_ | refine wp_ret' ?_ | refine wp_skip' ?_ | refine wp_exit' ?_)
    exact ⟨rfl, left, ⟨hl, hq⟩, rfl⟩
  | succ m ih =>
    intro i left hi hl hq
    have hi2 : i < code.length := by omega
    have hel := hc.el _ (List.getElem_mem hi2)
    obtain ⟨p, hp⟩ := Int.eq_ofNat_of_zero_le hel.1
    have hpl : p < left.length := by omega
    have hgt : left.getD p 0 = left[p] := by simp [List.getD_eq_getElem?_getD, List.getElem?_eq_getElem hpl]
    have hqp := hq p (by omega)
    rw [hgt] at hqp
    have hcl := hc.len
    have hcb : (code.take i).count (p : Int) ≤ i := Nat.le_trans List.count_le_length (by simp; omega)
    have w1 : IntKind.i64.wrap (left[p] + 1) = left[p] + 1 := wrap64 (by omega) (by omega)
    have w2 : IntKind.i64.wrap ((i : Int) + 1) = ((i + 1 : Nat) : Int) := wrapS (by omega)
    have hn := ih (i + 1) (left.set p (left[p] + 1)) (by omega) (by simpa using hl) fun v hv => by
      rw [getD_set (by omega), count_take_succ hi2, ← hq v hv, hp]
      by_cases hpv : p = v
      · subst hpv; simp only [if_true, hgt]
      · rw [if_neg hpv, if_neg (by omega)]; omega
    refine wp_loop ?_
    repeat (first | apply wp_as | apply wp_ss | refine wr (by simp [hi2, hp, hpl, w1, w2]; with_reducible rfl) ?_ | refine wq (by simp [hi2, hp, hpl, w1, w2]; with_reducible rfl) ?_ | refine wt (by simpa [hi2, hp, hpl, w1, w2]) ?_ | refine wf (by simpa [hi2, hp, hpl, w1, w2]) ?_ | refine xt (by simpa [hi2, hp, hpl, w1, w2]) ?_ | refine xf (by simpa [hi2, hp, hpl, w1, w2]) ?_ | apply wp_bs | apply wp_b | refine wp_sr ?_ | refine wp_sx ?_ | refine wp_ret' ?_ | refine wp_skip' ?_ | refine wp_exit' ?_)
    exact hn

theorem ct_out (code : List Int) (c : Bool) (hc : Code7 code) : ∀ (m i : Nat) (left gone : List Int) (es : List (Int × Int)), i + m = code.length → left.length = code.length + 2 → gone.length = i → es.length = i →
    (∀ v, v < code.length + 2 → left.getD v 0 = ((code.drop i).count (v : Int) : Nat)) →
    wp tb (.loop ic_spec_codeTree_l20) { T := [(0, L code c), (2, .bptr 0 0 0), (3, I ((code.length : Int) + 2)), (4, .bptr 0 1 0), (5, O left), (7, O gone), (8, I i)], loc := [[I 0, Z], [I ((code.length : Int) + 2), O2 es]], M := [] }
      (fun ex st => ex = .exit 2 ∧ ∃ left : List Int, st = { T := [(0, L code c), (2, .bptr 0 0 0), (3, I ((code.length : Int) + 2)), (4, .bptr 0 1 0), (5, O left), (7, O (ctree (code.length + 2) (code.drop i) gone es).2), (8, I code.length), (44, Bo false)], loc := [[I 0, Z], [I ((code.length : Int) + 2), O2 (ctree (code.length + 2) (code.drop i) gone es).1]], M := [] }) := by
  intro m
  induction m with
  | zero =>
    intro i left gone es hi hl hg he hq
    have h3 : i = code.length := hi
    subst h3
    refine wp_loop ?_
    repeat (first | apply wp_as | apply wp_ss | refine wr (by simp; with_reducible rfl) ?_ | refine wq (by simp; with_reducible rfl) ?_ | refine wt (by simpa) ?_ | refine wf (by simpa) ?_ | refine xt (by simpa) ?_ | refine xf (by simpa) ?_ | apply wp_bs | apply wp_b | refine wp_sr ?_ | refine wp_sx ?_ | refine wp_ret' ?_ | refine wp_skip' ?_ | refine wp_exit' ?_)
    exact ⟨rfl, left, by simp [ctree]⟩
  | succ m ih =>
    intro i left gone es hi hl hg he hq
    have hi2 : i < code.length := by omega
    have hel := hc.el _ (List.getElem_mem hi2)
    have hcl := hc.len
    obtain ⟨p, hp⟩ := Int.eq_ofNat_of_zero_le hel.1
    have hpl : p < left.length := by omega
    have hgt : left.getD p 0 = left[p] := by simp [List.getD_eq_getElem?_getD, List.getElem?_eq_getElem hpl]
    have hqp := hq p (by omega)
    rw [hgt] at hqp
    have hcb : (code.drop i).count (p : Int) ≤ 5 := Nat.le_trans List.count_le_length (by simp; omega)
    have w1 : IntKind.i64.wrap (left[p] - 1) = left[p] - 1 := wrap64 (by omega) (by omega)
    have w2 : IntKind.i64.wrap ((i : Int) + 1) = ((i + 1 : Nat) : Int) := wrapS (by omega)
    obtain ⟨w, hw1, hw2⟩ := free_ex (N := code.length + 2) (rest := code.drop i) (gone := gone) (by simp; omega)
    have hfo := freeV_ok (code.drop i) gone (code.length + 2) 0 w (by omega) (by omega) hw2
    have hin := ct_in code c (code.length + 2) i left gone [[I 0, Z], [I ((code.length : Int) + 2), O2 es]] (by omega) hl (by omega) (fun v hv => by
      rw [hq v hv, ← List.count_pos_iff]; omega) (code.length + 2) 0 (by omega) ⟨w, by omega, hw1, hw2⟩
    have hct : ctree (code.length + 2) (code.drop i) gone es = ctree (code.length + 2) (code.drop (i + 1)) (gone ++ [(freeV (code.drop i) gone (code.length + 2) 0 : Int)]) (insE (min (freeV (code.drop i) gone (code.length + 2) 0 : Int) code[i], max (freeV (code.drop i) gone (code.length + 2) 0 : Int) code[i]) es) := by
      conv => lhs; rw [List.drop_eq_getElem_cons hi2]
      rw [ctree, ← List.drop_eq_getElem_cons hi2]
    rw [hct]
    generalize freeV (code.drop i) gone (code.length + 2) 0 = u at *
    have e1 := fun cc => ev_lim (ev_addEdge ((code.length : Int) + 2) es cc (u : Int) code[i] (by omega))
    have hn := ih (i + 1) (left.set p (left[p] - 1)) (gone ++ [(u : Int)]) (insE (min (u : Int) code[i], max (u : Int) code[i]) es) (by omega) (by simpa using hl) (by simp [hg]) (by rw [insE_len]; omega) fun v hv => by
      have := count_drop_succ hi2 (v : Int)
      rw [getD_set (by omega)]
      have hqv := hq v hv
      rw [hp] at this
      by_cases hpv : p = v
      · subst hpv; simp only [if_true] at this ⊢; omega
      · rw [if_neg hpv]; rw [if_neg (by omega)] at this; omega
    rw [hp] at e1 hn ⊢
    have hgo : gone.take gone.length = gone := List.take_of_length_le (Nat.le_refl _)
    have hgl : gone.length + 1 ≤ 274877906944 := by omega
    have heo : es.take es.length = es := List.take_of_length_le (Nat.le_refl _)
    refine wp_loop ?_
    repeat (first | apply wp_as | apply wp_ss | refine wr (by simp [hi2]; with_reducible rfl) ?_ | refine wq (by simp [hi2]; with_reducible rfl) ?_ | refine wt (by simpa [hi2]) ?_ | refine wf (by simpa [hi2]) ?_ | refine xt (by simpa [hi2]) ?_ | refine xf (by simpa [hi2]) ?_ | apply wp_bs | apply wp_b | refine wp_sr ?_ | refine wp_sx ?_ | refine wp_ret' ?_ | refine wp_skip' ?_ | refine wp_exit' ?_)
    refine wp_imp hin ?_
    rintro ex st ⟨rfl, rfl⟩
    try simp only [if_true]
    repeat (first | apply wp_as | apply wp_ss | refine wr (by simp [hi2, hp, hpl, w1, w2, e1, hgo, hgl, heo]; with_reducible rfl) ?_ | refine wq (by simp [hi2, hp, hpl, w1, w2, e1, hgo, hgl, heo]; with_reducible rfl) ?_ | refine wt (by simpa [hi2, hp, hpl, w1, w2, e1, hgo, hgl, heo]) ?_ | refine wf (by simpa [hi2, hp, hpl, w1, w2, e1, hgo, hgl, heo]) ?_ | refine xt (by simpa [hi2, hp, hpl, w1, w2, e1, hgo, hgl, heo]) ?_ | refine xf (by simpa [hi2, hp, hpl, w1, w2, e1, hgo, hgl, heo]) ?_ | apply wp_bs | apply wp_b | refine wp_sr ?_ | refine wp_sx ?_ | refine wp_ret' ?_ | refine wp_skip' ?_ | refine wp_exit' ?_)
    exact hn

theorem ct_last (N : Nat) (gone : List Int) (es : List (Int × Int)) (hN : N ≤ 7) (hg : gone.length ≤ 7) : ∀ (m j : Nat), j + m = N →
    wp tb (.loop ic_spec_codeTree_l27) { T := [(2, .bptr 0 0 0), (3, I N), (4, .bptr 0 1 0), (7, O gone), (10, O (((rI N).take j).filter fun v => !decide (v ∈ gone))), (11, I j)], loc := [[I 0, Z], [I N, O2 es]], M := [] }
      (fun ex st => ex = .exit 6 ∧ st = { T := [(2, .bptr 0 0 0), (3, I N), (4, .bptr 0 1 0), (7, O gone), (10, O (lasts N gone)), (11, I N), (87, Bo false)], loc := [[I 0, Z], [I N, O2 es]], M := [] }) := by
  intro m
  induction m with
  | zero =>
    intro j hj
    have h3 : j = N := hj
    subst h3
    refine wp_loop ?_
    repeat (first | apply wp_as | apply wp_ss | refine wr (by simp; with_reducible rfl) ?_ | refine wq (by simp; with_reducible rfl) ?_ | refine wt (by simpa) ?_ | refine wf (by simpa) ?_ | refine xt (by simpa) ?_ | refine xf (by simpa) ?_ | apply wp_bs | apply wp_b | refine wp_sr ?_ | refine wp_sx ?_ | refine wp_ret' ?_ | refine wp_skip' ?_ | refine wp_exit' ?_)
    have : (rI j).take j = rI j := List.take_of_length_le (by rw [rI_len]; exact Nat.le_refl _)
    rw [this]
    exact ⟨rfl, rfl⟩
  | succ m ih =>
    intro j hj
    have hj2 : j < N := by omega
    have hj3 : j < (rI N).length := by rw [rI_len]; exact hj2
    have hgo : gone.take gone.length = gone := List.take_of_length_le (Nat.le_refl _)
    have w2 : IntKind.i64.wrap ((j : Int) + 1) = ((j + 1 : Nat) : Int) := wrapS (by omega)
    have e1 := fun cc => ev_lim (ev_hasInt gone cc (j : Int) (by omega))
    have hn := ih (j + 1) (by omega)
    rw [filter_take_succ hj3, show (rI N)[j] = (j : Int) by simp [rI]] at hn
    have hal : (((rI N).take j).filter fun v => !decide (v ∈ gone)).length ≤ j := Nat.le_trans (List.length_filter_le _ _) (by simp; omega)
    generalize (((rI N).take j).filter fun v => !decide (v ∈ gone)) = A at *
    have hAl : A.length + 1 ≤ 274877906944 := by omega
    have hAT : A.take A.length = A := List.take_of_length_le (Nat.le_refl _)
    by_cases hgv : (j : Int) ∈ gone
    · simp only [hgv, decide_true, Bool.not_true, Bool.false_eq_true, if_false, List.append_nil] at hn
      refine wp_loop ?_
      repeat (first | apply wp_as | apply wp_ss | refine wr (by simp [hj2, e1, hgv, hgo, w2]; with_reducible rfl) ?_ | refine wq (by simp [hj2, e1, hgv, hgo, w2]; with_reducible rfl) ?_ | refine wt (by simpa [hj2, e1, hgv, hgo, w2]) ?_ | refine wf (by simpa [hj2, e1, hgv, hgo, w2]) ?_ | refine xt (by simpa [hj2, e1, hgv, hgo, w2]) ?_ | refine xf (by simpa [hj2, e1, hgv, hgo, w2]) ?_ | apply wp_bs | apply wp_b | refine wp_sr ?_ | refine wp_sx ?_ | refine wp_ret' ?_ | refine wp_skip' ?_ | refine wp_exit' ?_)
      exact hn
    · simp only [hgv, decide_false, Bool.not_false, if_true] at hn
      refine wp_loop ?_
      repeat (first | apply wp_as | apply wp_ss | refine wr (by simp [hj2, e1, hgv, hgo, w2, hAl, hAT]; with_reducible rfl) ?_ | refine wq (by simp [hj2, e1, hgv, hgo, w2, hAl, hAT]; with_reducible rfl) ?_ | refine wt (by simpa [hj2, e1, hgv, hgo, w2, hAl, hAT]) ?_ | refine wf (by simpa [hj2, e1, hgv, hgo, w2, hAl, hAT]) ?_ | refine xt (by simpa [hj2, e1, hgv, hgo, w2, hAl, hAT]) ?_ | refine xf (by simpa [hj2, e1, hgv, hgo, w2, hAl, hAT]) ?_ | apply wp_bs | apply wp_b | refine wp_sr ?_ | refine wp_sx ?_ | refine wp_ret' ?_ | refine wp_skip' ?_ | refine wp_exit' ?_)
      exact hn

theorem ctree_len (N : Nat) : ∀ (rest gone : List Int) (es : List (Int × Int)), (ctree N rest gone es).1.length = rest.length + es.length ∧ (ctree N rest gone es).2.length = rest.length + gone.length
  | [], gone, es => by simp [ctree]
  | c :: r, gone, es => by
    rw [ctree]
    obtain ⟨h1, h2⟩ := ctree_len N r (gone ++ [(freeV (c :: r) gone N 0 : Int)]) (insE (min (freeV (c :: r) gone N 0 : Int) c, max (freeV (c :: r) gone N 0 : Int) c) es)
    rw [h1, h2, insE_len]
    simp; omega

theorem ev_codeTree (code : List Int) (c : Bool) (hc : Code7 code) : Ev tb l_spec_codeTree [] [L code c] [] ⟨OG ((code.length : Int) + 2) (codeT code), [], [], []⟩ := by
  have hcl := hc.len
  have w0 : IntKind.i64.wrap ((code.length : Int) + 2) = (code.length : Int) + 2 := wrap64 (by omega) (by omega)
  have h0 : (0 : Int) ≤ (code.length : Int) + 2 := by omega
  have hm : code.length + 2 ≤ 274877906944 := by omega
  have hA := ct_left code c hc [[I 0, Z], [I ((code.length : Int) + 2), O2 []]] code.length 0 (List.replicate (code.length + 2) 0) (by omega) (by simp) (fun v hv => by simp [List.getD_eq_getElem?_getD, List.getElem?_replicate, hv])
  have hlen := ctree_len (code.length + 2) code [] []
  have hla := lasts_len (N := code.length + 2) (gone := (ctree (code.length + 2) code [] []).2) (by rw [hlen.2]; simp)
  have hno : natOf (I ((code.length : Int) + 2)) = some (code.length + 2) := natOf_nat (n := code.length + 2)
  refine call_of_wp tb_spec_codeTree rfl ?_
  repeat (first | apply wp_as | apply wp_ss | refine wr (by simp [w0, h0, hm, hno]; with_reducible rfl) ?_ | refine wq (by simp [w0, h0, hm, hno]; with_reducible rfl) ?_ | refine wt (by simpa [w0, h0, hm, hno]) ?_ | refine wf (by simpa [w0, h0, hm, hno]) ?_ | refine xt (by simpa [w0, h0, hm, hno]) ?_ | refine xf (by simpa [w0, h0, hm, hno]) ?_ | apply wp_bs | apply wp_b | refine wp_sr ?_ | refine wp_sx ?_ | refine wp_ret' ?_ | refine wp_skip' ?_ | refine wp_exit' ?_)
  refine wp_imp hA ?_
  rintro ex st ⟨rfl, left, ⟨hll, hq⟩, rfl⟩
  try simp only [if_true]
  repeat (first | apply wp_as | apply wp_ss | refine wr (by simp; with_reducible rfl) ?_ | refine wq (by simp; with_reducible rfl) ?_ | refine wt (by simpa) ?_ | refine wf (by simpa) ?_ | refine xt (by simpa) ?_ | refine xf (by simpa) ?_ | apply wp_bs | apply wp_b | refine wp_sr ?_ | refine wp_sx ?_ | refine wp_ret' ?_ | refine wp_skip' ?_ | refine wp_exit' ?_)
  refine wp_imp (ct_out code c hc code.length 0 left [] [] (by omega) hll rfl rfl (by simpa using hq)) ?_
  rintro ex st ⟨rfl, left', rfl⟩
  try simp only [if_true, List.drop_zero]
  obtain ⟨q, hqe⟩ : ∃ q, q = ctree (code.length + 2) code [] [] := ⟨_, rfl⟩
  rw [← hqe] at hla hlen ⊢
  have hC := ct_last (code.length + 2) q.2 q.1 (by omega) (by rw [hlen.2]; simp; omega) (code.length + 2) 0 (by omega)
  rw [show ((code.length + 2 : Nat) : Int) = (code.length : Int) + 2 by omega] at hC
  repeat (first | apply wp_as | apply wp_ss | refine wr (by simp; with_reducible rfl) ?_ | refine wq (by simp; with_reducible rfl) ?_ | refine wt (by simpa) ?_ | refine wf (by simpa) ?_ | refine xt (by simpa) ?_ | refine xf (by simpa) ?_ | apply wp_bs | apply wp_b | refine wp_sr ?_ | refine wp_sx ?_ | refine wp_ret' ?_ | refine wp_skip' ?_ | refine wp_exit' ?_)
  refine wp_imp hC ?_
  rintro ex st ⟨rfl, rfl⟩
  try simp only [if_true]
  have hct : codeT code = insE (min ((lasts (code.length + 2) q.2).getD 0 0) ((lasts (code.length + 2) q.2).getD 1 0), max ((lasts (code.length + 2) q.2).getD 0 0) ((lasts (code.length + 2) q.2).getD 1 0)) q.1 := by rw [codeT, hqe]
  generalize lasts (code.length + 2) q.2 = l at *
  obtain ⟨x, y, r, rfl⟩ : ∃ x y r, l = x :: y :: r := by
    match l, hla with
    | x :: y :: r, _ => exact ⟨x, y, r, rfl⟩
  simp only [List.getD_cons_zero, List.getD_cons_succ] at hct
  have e1 := fun cc => ev_lim (ev_addEdge ((code.length : Int) + 2) q.1 cc x y (by rw [hlen.1]; simp; omega))
  rw [← hct] at e1
  have hgo : q.1.take q.1.length = q.1 := List.take_of_length_le (Nat.le_refl _)
  repeat (first | apply wp_as | apply wp_ss | refine wr (by simp [e1, hgo]; with_reducible rfl) ?_ | refine wq (by simp [e1, hgo]; with_reducible rfl) ?_ | refine wt (by simpa [e1, hgo]) ?_ | refine wf (by simpa [e1, hgo]) ?_ | refine xt (by simpa [e1, hgo]) ?_ | refine xf (by simpa [e1, hgo]) ?_ | apply wp_bs | apply wp_b | refine wp_sr ?_ | refine wp_sx ?_ | refine wp_ret' ?_ | refine wp_skip' ?_ | refine wp_exit' ?_)
  simp [if_spec_codeTree]

end Go.Idl

namespace Go.Idl

open Go

theorem edgesIn_ins {N : Nat} {es : List (Int × Int)} (h : EdgesIn N es) {a b : Int} (ha : 0 ≤ a ∧ a < N) (hb : 0 ≤ b ∧ b < N) : EdgesIn N (insE (min a b, max a b) es) := fun e he => by
  rcases (insE_mem _ _ _).1 he with rfl | he
  · simp only; omega
  · exact h e he

theorem ctree_in (N : Nat) : ∀ (rest gone : List Int) (es : List (Int × Int)), EdgesIn N es → (∀ x ∈ rest, 0 ≤ x ∧ x < N) → (∀ x ∈ gone, 0 ≤ x ∧ x < N) → rest.length + gone.length < N → EdgesIn N (ctree N rest gone es).1
  | [], gone, es, h, _, _, _ => h
  | c :: r, gone, es, h, hr, hg, hl => by
    obtain ⟨w, h1, h2⟩ := free_ex hl
    have hf := freeV_ok (c :: r) gone N 0 w (by omega) (by omega) h2
    rw [ctree]
    refine ctree_in N r _ _ (edgesIn_ins h (by omega) (hr c (by simp))) (fun x hx => hr x (by simp [hx])) (fun x hx => ?_) (by simp at hl ⊢; omega)
    rcases List.mem_append.1 hx with hx | hx
    · exact hg x hx
    · simp at hx; omega

theorem codeT_in {code : List Int} (hc : Code7 code) : EdgesIn (code.length + 2) (codeT code) := by
  have hlen := ctree_len (code.length + 2) code [] []
  have hla := lasts_len (N := code.length + 2) (gone := (ctree (code.length + 2) code [] []).2) (by rw [hlen.2]; simp)
  have h1 := ctree_in (code.length + 2) code [] [] (fun e he => by simp at he) (fun x hx => by have := hc.el x hx; omega) (fun x hx => by simp at hx) (by simp)
  have hm : ∀ i, i < (lasts (code.length + 2) (ctree (code.length + 2) code [] []).2).length → 0 ≤ (lasts (code.length + 2) (ctree (code.length + 2) code [] []).2).getD i 0 ∧ (lasts (code.length + 2) (ctree (code.length + 2) code [] []).2).getD i 0 < (code.length + 2 : Nat) := fun i hi => by
    rw [List.getD_eq_getElem?_getD, List.getElem?_eq_getElem hi]
    exact lasts_mem (List.getElem_mem hi)
  exact edgesIn_ins h1 (hm 0 (by omega)) (hm 1 (by omega))

theorem codeT_len (code : List Int) : (codeT code).length = code.length + 1 := by
  rw [codeT, insE_len, (ctree_len _ _ _ _).1]; simp

theorem atr_in (code : List Int) (c : Bool) (hc : CodeOk code) (n : Nat) (hn : n ≤ 5) (bs : Boxes) (Ms : List Boxes) : ∀ (m i cnt : Nat) (acc : List Int), i + m = n → acc.length = i → (∀ x ∈ acc, 0 ≤ x ∧ x < (n : Int) + 2) → cnt + m ≤ 900000 →
    wp tb (.loop ic_spec_aTree_l7) { T := [(0, .bptr 0 0 0), (3, O acc), (4, I n), (5, I i)], loc := [], M := (R code c cnt :: bs) :: Ms }
      (fun ex st => ex = .exit 0 ∧ ∃ (acc : List Int) (k : Nat), (acc.length = n ∧ (∀ x ∈ acc, 0 ≤ x ∧ x < (n : Int) + 2) ∧ k ≤ cnt + m) ∧ st = { T := [(0, .bptr 0 0 0), (3, O acc), (4, I n), (5, I n), (11, Bo false)], loc := [], M := (R code c k :: bs) :: Ms }) := by
  intro m
  induction m with
  | zero =>
    intro i cnt acc hi hl hb hk
    have h3 : i = n := hi
    subst h3
    refine wp_loop ?_
    repeat (first | apply wp_as | apply wp_ss | refine wr (by simp; with_reducible rfl) ?_ | refine wq (by simp; with_reducible rfl) ?_ | refine wt (by simpa) ?_ | refine wf (by simpa) ?_ | refine xt (by simpa) ?_ | refine xf (by simpa) ?_ | apply wp_bs | apply wp_b | refine wp_sr ?_ | refine wp_sx ?_ | refine wp_ret' ?_ | refine wp_skip' ?_ | refine wp_exit' ?_)
    exact ⟨rfl, acc, cnt, ⟨hl, hb, by omega⟩, rfl⟩
  | succ m ih =>
    intro i cnt acc hi hl hb hk
    have hi2 : i < n := by omega
    have w1 : IntKind.i64.wrap ((n : Int) + 2) = (n : Int) + 2 := wrap64 (by omega) (by omega)
    have w2 : IntKind.i64.wrap ((i : Int) + 1) = ((i + 1 : Nat) : Int) := wrapS (by omega)
    obtain ⟨v, k, hv, hk2, e1⟩ := pick' code c hc cnt (by omega) ((n : Int) + 2) (by omega) bs (Ms ++ [[]])
    have hv := hv (by omega)
    have hal : acc.length + 1 ≤ 274877906944 := by omega
    have hat : acc.take acc.length = acc := List.take_of_length_le (Nat.le_refl _)
    refine wp_loop ?_
    repeat (first | apply wp_as | apply wp_ss | refine wr (by simp [hi2, w1, w2, e1, hal, hat]; with_reducible rfl) ?_ | refine wq (by simp [hi2, w1, w2, e1, hal, hat]; with_reducible rfl) ?_ | refine wt (by simpa [hi2, w1, w2, e1, hal, hat]) ?_ | refine wf (by simpa [hi2, w1, w2, e1, hal, hat]) ?_ | refine xt (by simpa [hi2, w1, w2, e1, hal, hat]) ?_ | refine xf (by simpa [hi2, w1, w2, e1, hal, hat]) ?_ | apply wp_bs | apply wp_b | refine wp_sr ?_ | refine wp_sx ?_ | refine wp_ret' ?_ | refine wp_skip' ?_ | refine wp_exit' ?_)
    refine wp_imp (ih (i + 1) k (acc ++ [(v : Int)]) (by omega) (by simp [hl]) (fun x hx => ?_) (by omega)) ?_
    · rcases List.mem_append.1 hx with hx | hx
      · exact hb x hx
      · simp at hx; omega
    · rintro ex st ⟨rfl, acc', k', ⟨h1, h2, h3⟩, rfl⟩
      exact ⟨rfl, acc', k', ⟨h1, h2, by omega⟩, rfl⟩

theorem ev_aTree (code : List Int) (c : Bool) (hc : CodeOk code) (cnt : Nat) (hn : cnt ≤ 80000) (bs : Boxes) (Ms : List Boxes) :
    ∃ (d : List Int) (k : Nat), d.length ≤ 7 ∧ Low 1000 d ∧ k ≤ cnt + 10 ∧
      limF tb l_spec_aTree [] [.bptr 0 0 0] ((R code c cnt :: bs) :: Ms) = some ⟨O d, [], (R code c k :: bs) :: Ms, []⟩ := by
  obtain ⟨v, k1, hv, hk1, e1⟩ := pick' code c hc cnt (by omega) 6 (by omega) bs (Ms ++ [[]])
  have hv := hv (by omega)
  suffices hh : ∃ r, (∃ (d : List Int) (k : Nat), d.length ≤ 7 ∧ Low 1000 d ∧ k ≤ cnt + 10 ∧ r = ⟨O d, [], (R code c k :: bs) :: Ms, []⟩) ∧ Ev tb l_spec_aTree [] [.bptr 0 0 0] ((R code c cnt :: bs) :: Ms) r by
    obtain ⟨r, ⟨d, k, q1, q2, q3, rfl⟩, q4⟩ := hh
    exact ⟨d, k, q1, q2, q3, ev_lim q4⟩
  refine call_ex tb_spec_aTree rfl ?_
  repeat (first | apply wp_as | apply wp_ss | refine wr (by simp [e1]; with_reducible rfl) ?_ | refine wq (by simp [e1]; with_reducible rfl) ?_ | refine wt (by simpa [e1]) ?_ | refine wf (by simpa [e1]) ?_ | refine xt (by simpa [e1]) ?_ | refine xf (by simpa [e1]) ?_ | apply wp_bs | apply wp_b | refine wp_sr ?_ | refine wp_sx ?_ | refine wp_ret' ?_ | refine wp_skip' ?_ | refine wp_exit' ?_)
  refine wp_imp (atr_in code c hc v (by omega) bs Ms v 0 k1 [] (by omega) rfl (by simp) (by omega)) ?_
  rintro ex st ⟨rfl, acc, k, ⟨h1, h2, h3⟩, rfl⟩
  try simp only [if_true]
  have hc7 : Code7 acc := ⟨by omega, fun x hx => by have := h2 x hx; omega⟩
  have e2 := fun cc => ev_lim (ev_codeTree acc cc hc7)
  have hin := codeT_in hc7
  have hel := codeT_len acc
  have e3 := fun cc => ev_lim (ev_degrees (acc.length + 2) (codeT acc) cc (by omega) (by omega) hin)
  have hdl : (degs (acc.length + 2) (codeT acc)).length = acc.length + 2 := by rw [degs, dfold_len]; simp
  have hlo : Low 1000 (degs (acc.length + 2) (codeT acc)) := by
    intro x hx
    have := dfold_bound (codeT acc) (List.replicate (acc.length + 2) 0) 0 (by intro x hx; have := List.eq_of_mem_replicate hx; omega) (by omega) x hx
    omega
  have hto : acc.take acc.length = acc := List.take_of_length_le (Nat.le_refl _)
  have hn2 : ((acc.length + 2 : Nat) : Int) = (acc.length : Int) + 2 := by omega
  rw [hn2] at e3
  generalize degs (acc.length + 2) (codeT acc) = d at *
  repeat (first | apply wp_as | apply wp_ss | refine wr (by simp [e2, e3, hto]; with_reducible rfl) ?_ | refine wq (by simp [e2, e3, hto]; with_reducible rfl) ?_ | refine wt (by simpa [e2, e3, hto]) ?_ | refine wf (by simpa [e2, e3, hto]) ?_ | refine xt (by simpa [e2, e3, hto]) ?_ | refine xf (by simpa [e2, e3, hto]) ?_ | apply wp_bs | apply wp_b | refine wp_sr ?_ | refine wp_sx ?_ | refine wp_ret' ?_ | refine wp_skip' ?_ | refine wp_exit' ?_)
  refine ⟨.inr rfl, _, ⟨d, k, by omega, hlo, by omega, rfl⟩, ?_⟩
  simp [if_spec_aTree]

theorem ev_DrawIsTreeDegrees (code : List Int) (c : Bool) (h : ∀ x ∈ code, 0 ≤ x ∧ x ≤ 255) (hl : code.length ≤ 10000000) :
    ∃ d : List Int, d.length ≤ 8 ∧ Low 1000 d ∧ limF tb l_spec_DrawIsTreeDegrees [] [.lst 1 (bytes code) c] [] = some ⟨O d, [], [], []⟩ := by
  obtain ⟨c', e⟩ := ev_newReader code c [[]] (by omega)
  have e1 := ev_lim e
  obtain ⟨v, k1, hv, hk1, e2⟩ := pick' (code.take 2000) c' (code_ok h) 0 (by omega) 2 (by omega) [] []
  rw [show ((0 : Nat) : Int) = 0 from rfl] at e2
  by_cases hv0 : v = 0
  · subst hv0
    obtain ⟨d, k2, hd, hlo, hk2, e3⟩ := ev_aTree (code.take 2000) c' (code_ok h) k1 (by omega) [] []
    obtain ⟨d', k3, hd', hlo', hk3, e4⟩ := ev_bent (code.take 2000) c' (code_ok h) k2 (by omega) d (by omega) hlo [] []
    refine ⟨d', by omega, hlo', ev_lim ?_⟩
    refine call_of_wp tb_spec_DrawIsTreeDegrees rfl ?_
    repeat (first | apply wp_as | apply wp_ss | refine wr (by simp [e1, e2, e3, e4]; with_reducible rfl) ?_ | refine wq (by simp [e1, e2, e3, e4]; with_reducible rfl) ?_ | refine wt (by simpa [e1, e2, e3, e4]) ?_ | refine wf (by simpa [e1, e2, e3, e4]) ?_ | refine xt (by simpa [e1, e2, e3, e4]) ?_ | refine xf (by simpa [e1, e2, e3, e4]) ?_ | apply wp_bs | apply wp_b | refine wp_sr ?_ | refine wp_sx ?_ | refine wp_ret' ?_ | refine wp_skip' ?_ | refine wp_exit' ?_)
    simp [if_spec_DrawIsTreeDegrees]
  · have hv1 : ¬ (v : Int) = 0 := by omega
    obtain ⟨d, k2, hd, hlo, hk2, e3⟩ := ev_someDegrees (code.take 2000) c' (code_ok h) k1 (by omega) [] []
    refine ⟨d, by omega, hlo, ev_lim ?_⟩
    refine call_of_wp tb_spec_DrawIsTreeDegrees rfl ?_
    repeat (first | apply wp_as | apply wp_ss | refine wr (by simp [e1, e2, e3, hv0, hv1]; with_reducible rfl) ?_ | refine wq (by simp [e1, e2, e3, hv0, hv1]; with_reducible rfl) ?_ | refine wt (by simpa [e1, e2, e3, hv0, hv1]) ?_ | refine wf (by simpa [e1, e2, e3, hv0, hv1]) ?_ | refine xt (by simpa [e1, e2, e3, hv0, hv1]) ?_ | refine xf (by simpa [e1, e2, e3, hv0, hv1]) ?_ | apply wp_bs | apply wp_b | refine wp_sr ?_ | refine wp_sx ?_ | refine wp_ret' ?_ | refine wp_skip' ?_ | refine wp_exit' ?_)
    simp [if_spec_DrawIsTreeDegrees]

end Go.Idl

namespace Go.Idl

open Go

def posAll (d : List Int) : Bool := d.all fun x => decide (0 < x)

/-- Degrees of a connected graph. -/
def conn (d : List Int) : Bool := graphic d && (decide (0 < d.length) && ((decide (d.length = 1) || posAll d) && decide (2 * (d.length : Int) - 2 ≤ d.sum)))

def treeD (d : List Int) : Bool := conn d && decide (d.sum = 2 * (d.length : Int) - 2)

theorem graphic_valid {d : List Int} (h : graphic d = true) : valid d = true := by simp only [graphic, Bool.and_eq_true] at h; exact h.1.1

theorem min_pos {x : Int} {r : List Int} : (decide (0 < least1 x r)) = posAll (x :: r) := by
  rw [Bool.eq_iff_iff, decide_eq_true_eq]
  have := least1_ge r x 1
  simp only [posAll, List.all_eq_true, decide_eq_true_eq, List.mem_cons]
  constructor
  · intro h y hy
    have h2 := this.1 (by omega)
    rcases hy with rfl | hy
    · omega
    · have := h2.2 y hy; omega
  · intro h
    have := this.2 ⟨by have := h x (.inl rfl); omega, fun y hy => by have := h y (.inr hy); omega⟩
    omega

theorem ev_IsConnectable (d : List Int) (c : Bool) (hl : d.length ≤ 1000000) : Ev tb l_impl_IsConnectable [] [L d c] [] ⟨Bo (conn d), [], [], []⟩ := by
  have e1 := ev_lim (ev_IsGraphic d c hl)
  unfold conn
  cases hg : graphic d with
  | false =>
    refine call_of_wp tb_impl_IsConnectable rfl ?_
    repeat (first | apply wp_as | apply wp_ss | refine wr (by simp [e1, hg]; with_reducible rfl) ?_ | refine wq (by simp [e1, hg]; with_reducible rfl) ?_ | refine wt (by simpa [e1, hg]) ?_ | refine wf (by simpa [e1, hg]) ?_ | refine xt (by simpa [e1, hg]) ?_ | refine xf (by simpa [e1, hg]) ?_ | apply wp_bs | apply wp_b | refine wp_sr ?_ | refine wp_sx ?_ | refine wp_ret' ?_ | refine wp_skip' ?_ | refine wp_exit' ?_)
    simp [if_impl_IsConnectable]
  | true =>
  have hf := valid_few (graphic_valid hg)
  have hsm := hf.sum
  have e2 := ev_lim (ev_sum d c hf.small)
  have h7 := hf.1
  cases d with
  | nil =>
    refine call_of_wp tb_impl_IsConnectable rfl ?_
    repeat (first | apply wp_as | apply wp_ss | refine wr (by simp [e1, hg]; with_reducible rfl) ?_ | refine wq (by simp [e1, hg]; with_reducible rfl) ?_ | refine wt (by simpa [e1, hg]) ?_ | refine wf (by simpa [e1, hg]) ?_ | refine xt (by simpa [e1, hg]) ?_ | refine xf (by simpa [e1, hg]) ?_ | apply wp_bs | apply wp_b | refine wp_sr ?_ | refine wp_sx ?_ | refine wp_ret' ?_ | refine wp_skip' ?_ | refine wp_exit' ?_)
    simp [if_impl_IsConnectable]
  | cons x r =>
  have e3 := ev_lim (ev_Min x r c (by simp at h7; omega))
  have hmp := min_pos (x := x) (r := r)
  have w1 : IntKind.i64.wrap (2 * ((r.length : Int) + 1)) = 2 * ((r.length : Int) + 1) := wrap64 (by omega) (by simp at h7; omega)
  have w2 : IntKind.i64.wrap (2 * ((r.length : Int) + 1) - 2) = 2 * ((r.length : Int) + 1) - 2 := wrap64 (by omega) (by simp at h7; omega)
  by_cases h1 : r = []
  · subst h1
    refine call_of_wp tb_impl_IsConnectable rfl ?_
    repeat (first | apply wp_as | apply wp_ss | refine wr (by simp [e1, e2, hg, show IntKind.i64.wrap 2 = 2 from rfl, show IntKind.i64.wrap 0 = 0 from rfl]; with_reducible rfl) ?_ | refine wq (by simp [e1, e2, hg, show IntKind.i64.wrap 2 = 2 from rfl, show IntKind.i64.wrap 0 = 0 from rfl]; with_reducible rfl) ?_ | refine wt (by simpa [e1, e2, hg, show IntKind.i64.wrap 2 = 2 from rfl, show IntKind.i64.wrap 0 = 0 from rfl]) ?_ | refine wf (by simpa [e1, e2, hg, show IntKind.i64.wrap 2 = 2 from rfl, show IntKind.i64.wrap 0 = 0 from rfl]) ?_ | refine xt (by simpa [e1, e2, hg, show IntKind.i64.wrap 2 = 2 from rfl, show IntKind.i64.wrap 0 = 0 from rfl]) ?_ | refine xf (by simpa [e1, e2, hg, show IntKind.i64.wrap 2 = 2 from rfl, show IntKind.i64.wrap 0 = 0 from rfl]) ?_ | apply wp_bs | apply wp_b | refine wp_sr ?_ | refine wp_sx ?_ | refine wp_ret' ?_ | refine wp_skip' ?_ | refine wp_exit' ?_)
    simp [if_impl_IsConnectable]
  · have h2 : ¬ r.length = 0 := fun h => h1 (List.length_eq_zero_iff.1 h)
    have h3 : ¬ (r.length : Int) = 0 := by omega
    have h4 : ¬ (r.length : Int) + 1 = 1 := by omega
    have h5 : (0 : Int) < (r.length : Int) + 1 := by omega
    rw [show posAll (x :: r) = decide (0 < least1 x r) from hmp.symm]
    by_cases hp : 0 < least1 x r
    · refine call_of_wp tb_impl_IsConnectable rfl ?_
      repeat (first | apply wp_as | apply wp_ss | refine wr (by simp [e1, e2, e3, hg, h1, h2, h3, h4, h5, hp, w1, w2]; with_reducible rfl) ?_ | refine wq (by simp [e1, e2, e3, hg, h1, h2, h3, h4, h5, hp, w1, w2]; with_reducible rfl) ?_ | refine wt (by simpa [e1, e2, e3, hg, h1, h2, h3, h4, h5, hp, w1, w2]) ?_ | refine wf (by simpa [e1, e2, e3, hg, h1, h2, h3, h4, h5, hp, w1, w2]) ?_ | refine xt (by simpa [e1, e2, e3, hg, h1, h2, h3, h4, h5, hp, w1, w2]) ?_ | refine xf (by simpa [e1, e2, e3, hg, h1, h2, h3, h4, h5, hp, w1, w2]) ?_ | apply wp_bs | apply wp_b | refine wp_sr ?_ | refine wp_sx ?_ | refine wp_ret' ?_ | refine wp_skip' ?_ | refine wp_exit' ?_)
      simp [if_impl_IsConnectable, h1, hp]
      rfl
    · refine call_of_wp tb_impl_IsConnectable rfl ?_
      repeat (first | apply wp_as | apply wp_ss | refine wr (by simp [e1, e2, e3, hg, h1, h2, h3, h4, h5, hp, w1, w2]; with_reducible rfl) ?_ | refine wq (by simp [e1, e2, e3, hg, h1, h2, h3, h4, h5, hp, w1, w2]; with_reducible rfl) ?_ | refine wt (by simpa [e1, e2, e3, hg, h1, h2, h3, h4, h5, hp, w1, w2]) ?_ | refine wf (by simpa [e1, e2, e3, hg, h1, h2, h3, h4, h5, hp, w1, w2]) ?_ | refine xt (by simpa [e1, e2, e3, hg, h1, h2, h3, h4, h5, hp, w1, w2]) ?_ | refine xf (by simpa [e1, e2, e3, hg, h1, h2, h3, h4, h5, hp, w1, w2]) ?_ | apply wp_bs | apply wp_b | refine wp_sr ?_ | refine wp_sx ?_ | refine wp_ret' ?_ | refine wp_skip' ?_ | refine wp_exit' ?_)
      simp [if_impl_IsConnectable, h1, hp]

theorem ev_IsTreeDegrees (d : List Int) (c : Bool) (hl : d.length ≤ 1000000) : Ev tb l_impl_IsTreeDegrees [] [L d c] [] ⟨Bo (treeD d), [], [], []⟩ := by
  have e1 := ev_lim (ev_IsConnectable d c hl)
  unfold treeD
  cases hc : conn d with
  | false =>
    rw [hc] at e1
    refine call_of_wp tb_impl_IsTreeDegrees rfl ?_
    repeat (first | apply wp_as | apply wp_ss | refine wr (by simp [e1]; with_reducible rfl) ?_ | refine wq (by simp [e1]; with_reducible rfl) ?_ | refine wt (by simpa [e1]) ?_ | refine wf (by simpa [e1]) ?_ | refine xt (by simpa [e1]) ?_ | refine xf (by simpa [e1]) ?_ | apply wp_bs | apply wp_b | refine wp_sr ?_ | refine wp_sx ?_ | refine wp_ret' ?_ | refine wp_skip' ?_ | refine wp_exit' ?_)
    simp [if_impl_IsTreeDegrees]
  | true =>
  rw [hc] at e1
  have hg : graphic d = true := by simp only [conn, Bool.and_eq_true] at hc; exact hc.1
  have hf := valid_few (graphic_valid hg)
  have h7 := hf.1
  have e2 := ev_lim (ev_sum d c hf.small)
  have w1 : IntKind.i64.wrap (2 * (d.length : Int)) = 2 * (d.length : Int) := wrap64 (by omega) (by omega)
  have w2 : IntKind.i64.wrap (2 * (d.length : Int) - 2) = 2 * (d.length : Int) - 2 := wrap64 (by omega) (by omega)
  refine call_of_wp tb_impl_IsTreeDegrees rfl ?_
  repeat (first | apply wp_as | apply wp_ss | refine wr (by simp [e1, e2, w1, w2]; with_reducible rfl) ?_ | refine wq (by simp [e1, e2, w1, w2]; with_reducible rfl) ?_ | refine wt (by simpa [e1, e2, w1, w2]) ?_ | refine wf (by simpa [e1, e2, w1, w2]) ?_ | refine xt (by simpa [e1, e2, w1, w2]) ?_ | refine xf (by simpa [e1, e2, w1, w2]) ?_ | apply wp_bs | apply wp_b | refine wp_sr ?_ | refine wp_sx ?_ | refine wp_ret' ?_ | refine wp_skip' ?_ | refine wp_exit' ?_)
  simp [if_impl_IsTreeDegrees]
  try rfl

def facN : Nat → Nat
  | 0 => 1
  | n + 1 => (n + 1) * facN n

theorem facN_pos : ∀ n, 0 < facN n
  | 0 => by decide
  | n + 1 => Nat.mul_pos (by omega) (facN_pos n)

theorem facN_small : ∀ n, n ≤ 7 → facN n ≤ 5040 := by decide

theorem ev_factorial : ∀ (n : Nat) (x : Int), x.toNat = n → n ≤ 7 → -1000 ≤ x → Ev tb l_impl_factorial [] [I x] [] ⟨I (facN n), [], [], []⟩ := by
  intro n
  induction n with
  | zero =>
    intro x hx h7 hx2
    have h1 : x < 2 := by omega
    refine call_of_wp tb_impl_factorial rfl ?_
    repeat (first | apply wp_as | apply wp_ss | refine wr (by simp [h1]; with_reducible rfl) ?_ | refine wq (by simp [h1]; with_reducible rfl) ?_ | refine wt (by simpa [h1]) ?_ | refine wf (by simpa [h1]) ?_ | refine xt (by simpa [h1]) ?_ | refine xf (by simpa [h1]) ?_ | apply wp_bs | apply wp_b | refine wp_sr ?_ | refine wp_sx ?_ | refine wp_ret' ?_ | refine wp_skip' ?_ | refine wp_exit' ?_)
    simp [if_impl_factorial, facN]
  | succ n ih =>
    intro x hx h7 hx2
    by_cases h1 : x < 2
    · have : n = 0 := by omega
      subst this
      refine call_of_wp tb_impl_factorial rfl ?_
      repeat (first | apply wp_as | apply wp_ss | refine wr (by simp [h1]; with_reducible rfl) ?_ | refine wq (by simp [h1]; with_reducible rfl) ?_ | refine wt (by simpa [h1]) ?_ | refine wf (by simpa [h1]) ?_ | refine xt (by simpa [h1]) ?_ | refine xf (by simpa [h1]) ?_ | apply wp_bs | apply wp_b | refine wp_sr ?_ | refine wp_sx ?_ | refine wp_ret' ?_ | refine wp_skip' ?_ | refine wp_exit' ?_)
      simp [if_impl_factorial, facN]
    · have e1 := ev_lim (ih (x - 1) (by omega) (by omega) (by omega))
      have hs := facN_small (n + 1) h7
      have w1 : IntKind.i64.wrap (x - 1) = x - 1 := wrap64 (by omega) (by omega)
      have hx3 : x * (facN n : Int) = (facN (n + 1) : Int) := by rw [facN, Int.natCast_mul]; congr 1; omega
      have w2 : IntKind.i64.wrap (facN (n + 1) : Int) = (facN (n + 1) : Int) := wrap64 (by omega) (by omega)
      refine call_of_wp tb_impl_factorial rfl ?_
      repeat (first | apply wp_as | apply wp_ss | refine wr (by simp [h1, e1, w1, hx3, w2]; with_reducible rfl) ?_ | refine wq (by simp [h1, e1, w1, hx3, w2]; with_reducible rfl) ?_ | refine wt (by simpa [h1, e1, w1, hx3, w2]) ?_ | refine wf (by simpa [h1, e1, w1, hx3, w2]) ?_ | refine xt (by simpa [h1, e1, w1, hx3, w2]) ?_ | refine xf (by simpa [h1, e1, w1, hx3, w2]) ?_ | apply wp_bs | apply wp_b | refine wp_sr ?_ | refine wp_sx ?_ | refine wp_ret' ?_ | refine wp_skip' ?_ | refine wp_exit' ?_)
      simp [if_impl_factorial]

def divs : List Int → Nat → Nat
  | [], o => o
  | x :: r, o => divs r (o / facN (x - 1).toNat)

def cntT (d : List Int) : Nat := divs d (facN ((d.length : Int) - 2).toNat)

theorem ct_div (d : List Int) (c : Bool) (hd : Few d) : ∀ (m i o : Nat), i + m = d.length → o ≤ 5040 →
    wp tb (.loop ic_impl_CountTrees_l11) { T := [(0, L d c), (3, I o), (18, L d c), (19, I d.length), (20, I i)], loc := [], M := [] }
      (fun ex st => ex = .exit 1 ∧ st = { T := [(0, L d c), (3, I (divs (d.drop i) o)), (18, L d c), (19, I d.length), (20, I d.length), (21, Bo false)], loc := [], M := [] }) := by
  intro m
  induction m with
  | zero =>
    intro i o hi ho
    obtain ⟨h1, h2⟩ := drop_end hi
    have h3 : i = d.length := hi
    subst h3
    refine wp_loop ?_
    repeat (first | apply wp_as | apply wp_ss | refine wr (by simp; with_reducible rfl) ?_ | refine wq (by simp; with_reducible rfl) ?_ | refine wt (by simpa) ?_ | refine wf (by simpa) ?_ | refine xt (by simpa) ?_ | refine xf (by simpa) ?_ | apply wp_bs | apply wp_b | refine wp_sr ?_ | refine wp_sx ?_ | refine wp_ret' ?_ | refine wp_skip' ?_ | refine wp_exit' ?_)
    rw [h2]; exact ⟨rfl, rfl⟩
  | succ m ih =>
    intro i o hi ho
    obtain ⟨hi2, h2, h3⟩ := drop_get hi
    have hx := hd.2 _ h3
    have hl := hd.1
    have w1 : IntKind.i64.wrap (d[i] - 1) = d[i] - 1 := wrap64 (by omega) (by omega)
    have w2 : IntKind.i64.wrap ((i : Int) + 1) = ((i + 1 : Nat) : Int) := wrapS (by omega)
    have e1 := ev_lim (ev_factorial (d[i] - 1).toNat (d[i] - 1) rfl (by omega) (by omega))
    have hfp := facN_pos (d[i] - 1).toNat
    have hle : o / facN (d[i] - 1).toNat ≤ o := Nat.div_le_self _ _
    rw [h2, divs]
    generalize facN (d[i] - 1).toNat = q at *
    have hq0 : ¬ q = 0 := by omega
    have hq : (o : Int).tdiv (q : Int) = ((o / q : Nat) : Int) := by
      rw [Int.tdiv_eq_ediv_of_nonneg (by omega)]; rfl
    generalize o / q = o' at *
    have w3 : IntKind.i64.wrap (o' : Int) = (o' : Int) := wrap64 (by omega) (by omega)
    refine wp_loop ?_
    repeat (first | apply wp_as | apply wp_ss | refine wr (by simp [hi2, w1, w2, e1, hq0, hq, w3]; with_reducible rfl) ?_ | refine wq (by simp [hi2, w1, w2, e1, hq0, hq, w3]; with_reducible rfl) ?_ | refine wt (by simpa [hi2, w1, w2, e1, hq0, hq, w3]) ?_ | refine wf (by simpa [hi2, w1, w2, e1, hq0, hq, w3]) ?_ | refine xt (by simpa [hi2, w1, w2, e1, hq0, hq, w3]) ?_ | refine xf (by simpa [hi2, w1, w2, e1, hq0, hq, w3]) ?_ | apply wp_bs | apply wp_b | refine wp_sr ?_ | refine wp_sx ?_ | refine wp_ret' ?_ | refine wp_skip' ?_ | refine wp_exit' ?_)
    exact ih (i + 1) o' (by omega) (by omega)

theorem ev_CountTrees (d : List Int) (c : Bool) (hv : valid d = true) : Ev tb l_impl_CountTrees [] [L d c] [] ⟨I (if treeD d then (cntT d : Int) else 0), [], [], []⟩ := by
  have hf := valid_few hv
  have h7 := hf.1
  have e1 := ev_lim (ev_ValidDegrees d c (by omega))
  rw [hv] at e1
  have e2 := ev_lim (ev_IsTreeDegrees d c (by omega))
  cases ht : treeD d with
  | false =>
    rw [ht] at e2
    refine call_of_wp tb_impl_CountTrees rfl ?_
    repeat (first | apply wp_as | apply wp_ss | refine wr (by simp [e1, e2]; with_reducible rfl) ?_ | refine wq (by simp [e1, e2]; with_reducible rfl) ?_ | refine wt (by simpa [e1, e2]) ?_ | refine wf (by simpa [e1, e2]) ?_ | refine xt (by simpa [e1, e2]) ?_ | refine xf (by simpa [e1, e2]) ?_ | apply wp_bs | apply wp_b | refine wp_sr ?_ | refine wp_sx ?_ | refine wp_ret' ?_ | refine wp_skip' ?_ | refine wp_exit' ?_)
    simp [if_impl_CountTrees]
  | true =>
  rw [ht] at e2
  have w1 : IntKind.i64.wrap ((d.length : Int) - 2) = (d.length : Int) - 2 := wrap64 (by omega) (by omega)
  have e3 := ev_lim (ev_factorial ((d.length : Int) - 2).toNat ((d.length : Int) - 2) rfl (by omega) (by omega))
  have hs := facN_small ((d.length : Int) - 2).toNat (by omega)
  rw [if_pos rfl, cntT]
  generalize facN ((d.length : Int) - 2).toNat = q at *
  refine call_of_wp tb_impl_CountTrees rfl ?_
  repeat (first | apply wp_as | apply wp_ss | refine wr (by simp [e1, e2, w1, e3]; with_reducible rfl) ?_ | refine wq (by simp [e1, e2, w1, e3]; with_reducible rfl) ?_ | refine wt (by simpa [e1, e2, w1, e3]) ?_ | refine wf (by simpa [e1, e2, w1, e3]) ?_ | refine xt (by simpa [e1, e2, w1, e3]) ?_ | refine xf (by simpa [e1, e2, w1, e3]) ?_ | apply wp_bs | apply wp_b | refine wp_sr ?_ | refine wp_sx ?_ | refine wp_ret' ?_ | refine wp_skip' ?_ | refine wp_exit' ?_)
  refine wp_imp (ct_div d c hf d.length 0 q (by simp) hs) ?_
  rintro ex st ⟨rfl, rfl⟩
  try simp only [if_true]
  repeat (first | apply wp_as | apply wp_ss | refine wr (by simp; with_reducible rfl) ?_ | refine wq (by simp; with_reducible rfl) ?_ | refine wt (by simpa) ?_ | refine wf (by simpa) ?_ | refine xt (by simpa) ?_ | refine xf (by simpa) ?_ | apply wp_bs | apply wp_b | refine wp_sr ?_ | refine wp_sx ?_ | refine wp_ret' ?_ | refine wp_skip' ?_ | refine wp_exit' ?_)
  simp [if_impl_CountTrees]

end Go.Idl

namespace Go.Idl

open Go

theorem ev_smallest (x : Int) (r : List Int) (c : Bool) (hl : r.length ≤ 1000000) : Ev tb l_spec_smallest [] [L (x :: r) c] [] ⟨I (least1 x r), [], [], []⟩ := by
  have loop : ∀ (m i : Nat) (y : Int), i + m = (x :: r).length → wp tb (.loop ic_spec_smallest_l6) { T := [(0, L (x :: r) c), (3, I y), (4, I i)], loc := [], M := [] }
      (fun ex st => ex = .exit 0 ∧ st = { T := [(0, L (x :: r) c), (3, I (least1 y ((x :: r).drop i))), (4, I (x :: r).length), (11, Bo false)], loc := [], M := [] }) := by
    generalize hd : x :: r = d at *
    have hdl : d.length ≤ 1000001 := by rw [← hd]; simp; omega
    intro m
    induction m with
    | zero =>
      intro i y hi
      obtain ⟨h1, h2⟩ := drop_end hi
      have h3 : i = d.length := hi
      subst h3
      refine wp_loop ?_
      repeat (first | apply wp_as | apply wp_ss | refine wr (by simp; with_reducible rfl) ?_ | refine wq (by simp; with_reducible rfl) ?_ | refine wt (by simpa) ?_ | refine wf (by simpa) ?_ | refine xt (by simpa) ?_ | refine xf (by simpa) ?_ | apply wp_bs | apply wp_b | refine wp_sr ?_ | refine wp_sx ?_ | refine wp_ret' ?_ | refine wp_skip' ?_ | refine wp_exit' ?_)
      rw [h2]; exact ⟨rfl, rfl⟩
    | succ m ih =>
      intro i y hi
      obtain ⟨hi2, h2, h3⟩ := drop_get hi
      have w2 : IntKind.i64.wrap ((i : Int) + 1) = ((i + 1 : Nat) : Int) := wrapS (by omega)
      have hm : (if d[i] < y then d[i] else y) = min y d[i] := by split <;> omega
      rw [h2, least1]
      refine wp_loop ?_
      repeat (first | apply wp_as | apply wp_ss | refine wr (by simp [hi2, w2, hm]; with_reducible rfl) ?_ | refine wq (by simp [hi2, w2, hm]; with_reducible rfl) ?_ | refine wt (by simpa [hi2, w2, hm]) ?_ | refine wf (by simpa [hi2, w2, hm]) ?_ | refine xt (by simpa [hi2, w2, hm]) ?_ | refine xf (by simpa [hi2, w2, hm]) ?_ | apply wp_bs | apply wp_b | refine wp_sr ?_ | refine wp_sx ?_ | refine wp_ret' ?_ | refine wp_skip' ?_ | refine wp_exit' ?_)
      exact ih (i + 1) (min y d[i]) (by omega)
  have hx : least1 x ((x :: r).drop 0) = least1 x r := by
    simp only [List.drop_zero, least1]
    congr 1; omega
  have hlo := loop (x :: r).length 0 x (by simp)
  rw [hx] at hlo
  refine call_of_wp tb_spec_smallest rfl ?_
  repeat (first | apply wp_as | apply wp_ss | refine wr (by simp; with_reducible rfl) ?_ | refine wq (by simp; with_reducible rfl) ?_ | refine wt (by simpa) ?_ | refine wf (by simpa) ?_ | refine xt (by simpa) ?_ | refine xf (by simpa) ?_ | apply wp_bs | apply wp_b | refine wp_sr ?_ | refine wp_sx ?_ | refine wp_ret' ?_ | refine wp_skip' ?_ | refine wp_exit' ?_)
  refine wp_imp hlo ?_
  rintro ex st ⟨rfl, rfl⟩
  try simp only [if_true]
  repeat (first | apply wp_as | apply wp_ss | refine wr (by simp; with_reducible rfl) ?_ | refine wq (by simp; with_reducible rfl) ?_ | refine wt (by simpa) ?_ | refine wf (by simpa) ?_ | refine xt (by simpa) ?_ | refine xf (by simpa) ?_ | apply wp_bs | apply wp_b | refine wp_sr ?_ | refine wp_sx ?_ | refine wp_ret' ?_ | refine wp_skip' ?_ | refine wp_exit' ?_)
  simp [if_spec_smallest]

/-- Degrees of trees, as the reference says. -/
def treeS (d : List Int) : Bool := valid d && (decide (d.length = 1) || (decide (1 < d.length) && (posAll d && decide (d.sum = 2 * ((d.length : Int) - 1)))))

/-- What the law says. -/
def TreeLaw (d : List Int) : Bool := (treeD d == treeS d) && (!treeD d || decide (0 < cntT d))

end Go.Idl

namespace Go.Idl

open Go

def decAt (o : List Int) (i : Nat) : List Int := o.set i (o.getD i 0 - 1)

/-- All sublists of edges with degrees, those with the first edge first. -/
def subs : List (Int × Int) → List Int → List (Int × Int) → List (List (Int × Int))
  | [], left, chosen => if left.all (fun x => decide (x = 0)) then [chosen] else []
  | e :: r, left, chosen =>
    (if 0 < left.getD e.1.toNat 0 ∧ 0 < left.getD e.2.toNat 0 then subs r (decAt (decAt left e.1.toNat) e.2.toNat) (chosen ++ [e]) else []) ++ subs r left chosen

/-- Those up to the first one at which the caller says no, and whether it never did. -/
def upTo (more : List (Int × Int) → Bool) : List (List (Int × Int)) → List (List (Int × Int)) × Bool
  | [] => ([], true)
  | g :: r => if more g then (g :: (upTo more r).1, (upTo more r).2) else ([g], false)

theorem upTo_app (more) (a b : List (List (Int × Int))) : upTo more (a ++ b) = if (upTo more a).2 then ((upTo more a).1 ++ (upTo more b).1, (upTo more b).2) else upTo more a := by
  induction a with
  | nil => simp [upTo]
  | cons g r ih =>
    simp only [List.cons_append, upTo, ih]
    by_cases hm : more g = true
    · simp only [if_pos hm]
      by_cases hq : (upTo more r).2 = true <;> simp [hq]
    · simp only [if_neg hm]; simp

/-- A list of edges, as none or as a slice of its own. -/
def EdRep (x : IV) (es : List (Int × Int)) : Prop := x = O2 es ∨ (es = [] ∧ x = Z)

theorem ev_Clone2 (e0 : Nat) (es : List (Int × Int)) (c : Bool) (he0 : e0 = 2 ∨ es = []) (hl : es.length ≤ 1000000) : Ev tb l_slices_Clone_Simpl_Edge_impl_Edge_ [] [.lst e0 (eds es) c] [] ⟨O2 es, [], [], []⟩ := by
  rcases he0 with rfl | rfl
  · refine call_of_wp tb_slices_Clone_Simpl_Edge_impl_Edge_ rfl ?_
    refine wp_rs (by simp; rfl) (by simp; rfl) ?_
    refine wp_nil2 (b := es.isEmpty) (by simp [ic_slices_Clone_Simpl_Edge_impl_Edge__r1]; rfl) (by simp) ?_ ?_ ?_ (ex := .ret) (st' := { T := [(2, .own 2 (eds es))], loc := [], M := [] })
    · refine wp_ct (t := false) (by simp) (by simp) fun _ => wp_ss ?_
      refine wp_rs (by simp [show es.length ≤ 274877906944 by omega]; rfl) (by simp; rfl) ?_
      refine wp_ret' ?_
      simp
    · intro he
      have : es = [] := by simpa using he
      subst this
      refine wp_ct (t := true) (by simp) (fun _ => wp_as ?_) (by simp)
      refine wp_rs (by simp; rfl) (by simp; rfl) ?_
      refine wp_sr ?_
      simp
    · simp [if_slices_Clone_Simpl_Edge_impl_Edge_]
  · refine call_of_wp tb_slices_Clone_Simpl_Edge_impl_Edge_ rfl ?_
    refine wp_rs (by simp; rfl) (by simp; rfl) ?_
    refine wp_nil2 (b := ([] : List (Int × Int)).isEmpty) (by simp [ic_slices_Clone_Simpl_Edge_impl_Edge__r1]; rfl) (by simp) ?_ ?_ ?_ (ex := .ret) (st' := { T := [(2, .own 2 (eds ([] : List (Int × Int))))], loc := [], M := [] })
    · refine wp_ct (t := false) (by simp) (by simp) fun _ => wp_ss ?_
      refine wp_rs (by simp; rfl) (by simp; rfl) ?_
      refine wp_ret' ?_
      simp
    · intro he
      refine wp_ct (t := true) (by simp) (fun _ => wp_as ?_) (by simp)
      refine wp_rs (by simp; rfl) (by simp; rfl) ?_
      refine wp_sr ?_
      simp
    · simp [if_slices_Clone_Simpl_Edge_impl_Edge_]

theorem ev_clone2 (e0 : Nat) (es : List (Int × Int)) (c : Bool) (he0 : e0 = 2 ∨ es = []) (hl : es.length ≤ 1000000) : Ev tb l_impl_clone_impl_Edge_ [] [.lst e0 (eds es) c] [] ⟨O2 es, [], [], []⟩ := by
  have e1 := ev_lim (ev_Clone2 e0 es c he0 hl)
  have e2 := ev_lim (ev_Clip2 es)
  refine call_of_wp tb_impl_clone_impl_Edge_ rfl ?_
  repeat (first | apply wp_as | apply wp_ss | refine wr (by simp [e1, e2]; with_reducible rfl) ?_ | refine wq (by simp [e1, e2]; with_reducible rfl) ?_ | refine wt (by simpa [e1, e2]) ?_ | refine wf (by simpa [e1, e2]) ?_ | refine xt (by simpa [e1, e2]) ?_ | refine xf (by simpa [e1, e2]) ?_ | apply wp_bs | apply wp_b | refine wp_sr ?_ | refine wp_sx ?_ | refine wp_ret' ?_ | refine wp_skip' ?_ | refine wp_exit' ?_)
  simp [if_impl_clone_impl_Edge_]

end Go.Idl

namespace Go.Idl

open Go

def capsW : List IV := [.bptr 1 1 0, .bptr 1 3 0, .bptr 1 2 0, .bptr 1 0 0, .bptr 1 4 0, .bptr 1 5 0]

/-- The boxes of the search. -/
def boxW (n : Int) (e0 : Nat) (from_ : List (Int × Int)) (c : Bool) (F : Lab) (caps : List IV) (left : List Int) (ch : IV) : Boxes :=
  [[I n], [.lst e0 (eds from_) c], [.fn F caps], [O left], [ch], [.fn l_impl_subgraphs_F1 capsW]]

/-- What a function that is called with the graphs does to the boxes below. -/
def CallsBack (n : Int) (F : Lab) (caps : List IV) (more : List (Int × Int) → Bool) (P : List (List (Int × Int)) → Boxes → Prop) : Prop :=
  ∀ gl bs es, P gl bs → gl.length ≤ 10000000 → es.length ≤ 1000 → ∃ bs', P (gl ++ [es]) bs' ∧ ∀ B Es, Ev tb F [] (.agg [I n, O2 es] :: caps) (bs :: B :: Es) ⟨Bo (more es), [], bs' :: B :: Es, []⟩

theorem sg_end (n : Int) (e0 : Nat) (from_ : List (Int × Int)) (c : Bool) (F : Lab) (caps : List IV) (more : List (Int × Int) → Bool) (P : List (List (Int × Int)) → Boxes → Prop) (hcb : CallsBack n F caps more P) (N : Nat)
    (hN : N ≤ 1000) (hfl : from_.length ≤ 900) (left : List Int) (ch : IV) (chosen : List (Int × Int)) (gl : List (List (Int × Int))) (bs : Boxes) (Es : List Boxes) (hP : P gl bs) (hgl : gl.length ≤ 10000000) (hch : EdRep ch chosen)
    (hl : left.length = N) (hcl : chosen.length ≤ 950) :
    ∃ ch' bs', EdRep ch' chosen ∧ P (gl ++ (upTo more (subs [] left chosen)).1) bs' ∧
      Ev tb l_impl_subgraphs_F1 [] (I from_.length :: capsW) (bs :: boxW n e0 from_ c F caps left ch :: Es) ⟨Bo (upTo more (subs [] left chosen)).2, [], bs' :: boxW n e0 from_ c F caps left ch' :: Es, []⟩ := by
  have e1 := fun cc => ev_lim (ev_allIn left cc 0 0 (by omega))
  have hz0 : (left.all fun x => decide (0 ≤ x) && decide (x ≤ 0)) = left.all fun x => decide (x = 0) := by
    congr 1; funext x; rw [Bool.eq_iff_iff]; simp; omega
  rw [hz0] at e1
  have hlt : left.take N = left := List.take_of_length_le (by omega)
  unfold subs
  cases hz : left.all (fun x => decide (x = 0)) with
  | false =>
    rw [hz] at e1
    simp only [Bool.false_eq_true, if_false]
    refine ⟨ch, bs, hch, by simpa [upTo] using hP, ?_⟩
    simp only [upTo, boxW, capsW]
    refine call_of_wp tb_impl_subgraphs_F1 rfl ?_
    repeat (first | apply wp_as | apply wp_ss | refine wr (by simp [e1, hl, hlt]; with_reducible rfl) ?_ | refine wq (by simp [e1, hl, hlt]; with_reducible rfl) ?_ | refine wt (by simpa [e1, hl, hlt]) ?_ | refine wf (by simpa [e1, hl, hlt]) ?_ | refine xt (by simpa [e1, hl, hlt]) ?_ | refine xf (by simpa [e1, hl, hlt]) ?_ | apply wp_bs | apply wp_b | refine wp_sr ?_ | refine wp_sx ?_ | refine wp_ret' ?_ | refine wp_skip' ?_ | refine wp_exit' ?_)
    refine wp_ra (by simp [e1, hl, hlt]; with_reducible rfl) (by simp; with_reducible rfl) ?_ ?_
    · intro p hp
      simp only [List.mem_cons, List.not_mem_nil, or_false] at hp
      rcases hp with rfl | rfl | rfl | rfl | rfl
      · exact ⟨_, by simp [e1, hl, hlt]; with_reducible rfl, by simp⟩
      · exact ⟨_, by simp [e1, hl, hlt]; with_reducible rfl, by simp⟩
      · exact ⟨_, by simp [e1, hl, hlt]; with_reducible rfl, by simp⟩
      · exact ⟨_, by simp [e1, hl, hlt]; with_reducible rfl, by simp⟩
      · exact ⟨_, by simp [e1, hl, hlt]; with_reducible rfl, by simp⟩
    repeat (first | apply wp_as | apply wp_ss | refine wr (by simp; with_reducible rfl) ?_ | refine wq (by simp; with_reducible rfl) ?_ | refine wt (by simpa) ?_ | refine wf (by simpa) ?_ | refine xt (by simpa) ?_ | refine xf (by simpa) ?_ | apply wp_bs | apply wp_b | refine wp_sr ?_ | refine wp_sx ?_ | refine wp_ret' ?_ | refine wp_skip' ?_ | refine wp_exit' ?_)
    simp [if_impl_subgraphs_F1]
  | true =>
    rw [hz] at e1
    obtain ⟨bs', hP', hF⟩ := hcb gl bs chosen hP hgl (by omega)
    simp only [if_true]
    have hu : upTo more [chosen] = ([chosen], more chosen) := by simp only [upTo]; cases more chosen <;> rfl
    rw [hu]
    refine ⟨ch, bs', hch, hP', ?_⟩
    have e2 := fun B Es => ev_lim (hF B Es)
    have hct : chosen.take chosen.length = chosen := List.take_of_length_le (Nat.le_refl _)
    generalize more chosen = b at *
    rcases hch with rfl | ⟨rfl, rfl⟩
    · have e3 := fun cc => ev_lim (ev_clone2 2 chosen cc (.inl rfl) (by omega))
      simp only [boxW, capsW] at e2 ⊢
      refine call_of_wp tb_impl_subgraphs_F1 rfl ?_
      repeat (first | apply wp_as | apply wp_ss | refine wr (by simp [e1, hl, hlt]; with_reducible rfl) ?_ | refine wq (by simp [e1, hl, hlt]; with_reducible rfl) ?_ | refine wt (by simpa [e1, hl, hlt]) ?_ | refine wf (by simpa [e1, hl, hlt]) ?_ | refine xt (by simpa [e1, hl, hlt]) ?_ | refine xf (by simpa [e1, hl, hlt]) ?_ | apply wp_bs | apply wp_b | refine wp_sr ?_ | refine wp_sx ?_ | refine wp_ret' ?_ | refine wp_skip' ?_ | refine wp_exit' ?_)
      refine wp_ra (by simp [e1, e2, e3, hl, hlt, hct]; with_reducible rfl) (by simp; with_reducible rfl) ?_ ?_
      · intro p hp
        simp only [List.mem_cons, List.not_mem_nil, or_false] at hp
        rcases hp with rfl | rfl | rfl | rfl | rfl
        · exact ⟨_, by simp [e1, e2, e3, hl, hlt, hct]; with_reducible rfl, by simp⟩
        · exact ⟨_, by simp [e1, e2, e3, hl, hlt, hct]; with_reducible rfl, by simp⟩
        · exact ⟨_, by simp [e1, e2, e3, hl, hlt, hct]; with_reducible rfl, by simp⟩
        · exact ⟨_, by simp [e1, e2, e3, hl, hlt, hct]; with_reducible rfl, by simp⟩
        · exact ⟨_, by simp [e1, e2, e3, hl, hlt, hct]; with_reducible rfl, by simp⟩
      repeat (first | apply wp_as | apply wp_ss | refine wr (by simp; with_reducible rfl) ?_ | refine wq (by simp; with_reducible rfl) ?_ | refine wt (by simpa) ?_ | refine wf (by simpa) ?_ | refine xt (by simpa) ?_ | refine xf (by simpa) ?_ | apply wp_bs | apply wp_b | refine wp_sr ?_ | refine wp_sx ?_ | refine wp_ret' ?_ | refine wp_skip' ?_ | refine wp_exit' ?_)
      simp [if_impl_subgraphs_F1]
    · have e3 := ev_lim (show Ev tb l_impl_clone_impl_Edge_ [] [Z] [] ⟨O2 [], [], [], []⟩ from ev_clone2 0 [] true (.inr rfl) (by simp))
      simp only [boxW, capsW] at e2 ⊢
      refine call_of_wp tb_impl_subgraphs_F1 rfl ?_
      repeat (first | apply wp_as | apply wp_ss | refine wr (by simp [e1, hl, hlt]; with_reducible rfl) ?_ | refine wq (by simp [e1, hl, hlt]; with_reducible rfl) ?_ | refine wt (by simpa [e1, hl, hlt]) ?_ | refine wf (by simpa [e1, hl, hlt]) ?_ | refine xt (by simpa [e1, hl, hlt]) ?_ | refine xf (by simpa [e1, hl, hlt]) ?_ | apply wp_bs | apply wp_b | refine wp_sr ?_ | refine wp_sx ?_ | refine wp_ret' ?_ | refine wp_skip' ?_ | refine wp_exit' ?_)
      refine wp_ra (by simp [e1, e2, e3, hl, hlt, hct]; with_reducible rfl) (by simp; with_reducible rfl) ?_ ?_
      · intro p hp
        simp only [List.mem_cons, List.not_mem_nil, or_false] at hp
        rcases hp with rfl | rfl | rfl | rfl | rfl
        · exact ⟨_, by simp [e1, e2, e3, hl, hlt, hct]; with_reducible rfl, by simp⟩
        · exact ⟨_, by simp [e1, e2, e3, hl, hlt, hct]; with_reducible rfl, by simp⟩
        · exact ⟨_, by simp [e1, e2, e3, hl, hlt, hct]; with_reducible rfl, by simp⟩
        · exact ⟨_, by simp [e1, e2, e3, hl, hlt, hct]; with_reducible rfl, by simp⟩
        · exact ⟨_, by simp [e1, e2, e3, hl, hlt, hct]; with_reducible rfl, by simp⟩
      repeat (first | apply wp_as | apply wp_ss | refine wr (by simp; with_reducible rfl) ?_ | refine wq (by simp; with_reducible rfl) ?_ | refine wt (by simpa) ?_ | refine wf (by simpa) ?_ | refine xt (by simpa) ?_ | refine xf (by simpa) ?_ | apply wp_bs | apply wp_b | refine wp_sr ?_ | refine wp_sx ?_ | refine wp_ret' ?_ | refine wp_skip' ?_ | refine wp_exit' ?_)
      simp [if_impl_subgraphs_F1]

end Go.Idl

namespace Go.Idl

open Go

set_option maxHeartbeats 2000000 in
theorem sg_skip (n : Int) (from_ : List (Int × Int)) (c : Bool) (F : Lab) (caps : List IV) (i p q N : Nat) (hi2 : i < from_.length) (hfl : from_.length ≤ 900) (hp : from_[i].1 = p) (hq : from_[i].2 = q) (left : List Int) (hl : left.length = N) (hpN : p < N) (hqN : q < N)
    (hpos : ¬ (0 < left[p] ∧ 0 < left[q])) (ch ch' : IV) (bs bs' : Boxes) (Es : List Boxes) (b : Bool)
    (e1 : Ev tb l_impl_subgraphs_F1 [] (I ((i + 1 : Nat) : Int) :: capsW) (bs :: boxW n 2 from_ c F caps left ch :: (Es ++ [[[I p, I q]]])) ⟨Bo b, [], bs' :: boxW n 2 from_ c F caps left ch' :: (Es ++ [[[I p, I q]]]), []⟩) :
    Ev tb l_impl_subgraphs_F1 [] (I i :: capsW) (bs :: boxW n 2 from_ c F caps left ch :: Es) ⟨Bo b, [], bs' :: boxW n 2 from_ c F caps left ch' :: Es, []⟩ := by
  have hpl : p < left.length := by omega
  have hql : q < left.length := by omega
  have hie : ¬ (i : Int) = from_.length := by omega
  have w2 : IntKind.i64.wrap ((i : Int) + 1) = (i : Int) + 1 := wrap64 (by omega) (by omega)
  have e1 := ev_lim e1
  rw [show ((i + 1 : Nat) : Int) = (i : Int) + 1 by omega] at e1
  simp only [boxW, capsW] at e1 ⊢
  by_cases hp0 : 0 < left[p]
  · have hq0 : ¬ 0 < left[q] := fun h => hpos ⟨hp0, h⟩
    refine call_of_wp tb_impl_subgraphs_F1 rfl ?_
    repeat (first | apply wp_as | apply wp_ss | refine wr (by simp [hi2, hie, hp, hq, hpl, hql, hp0, hq0, w2, e1, hl, hpN, hqN]; with_reducible rfl) ?_ | refine wq (by simp [hi2, hie, hp, hq, hpl, hql, hp0, hq0, w2, e1, hl, hpN, hqN]; with_reducible rfl) ?_ | refine wt (by simpa [hi2, hie, hp, hq, hpl, hql, hp0, hq0, w2, e1, hl, hpN, hqN]) ?_ | refine wf (by simpa [hi2, hie, hp, hq, hpl, hql, hp0, hq0, w2, e1, hl, hpN, hqN]) ?_ | refine xt (by simpa [hi2, hie, hp, hq, hpl, hql, hp0, hq0, w2, e1, hl, hpN, hqN]) ?_ | refine xf (by simpa [hi2, hie, hp, hq, hpl, hql, hp0, hq0, w2, e1, hl, hpN, hqN]) ?_ | apply wp_bs | apply wp_b | refine wp_sr ?_ | refine wp_sx ?_ | refine wp_ret' ?_ | refine wp_skip' ?_ | refine wp_exit' ?_)
    simp [if_impl_subgraphs_F1]
  · refine call_of_wp tb_impl_subgraphs_F1 rfl ?_
    repeat (first | apply wp_as | apply wp_ss | refine wr (by simp [hi2, hie, hp, hq, hpl, hql, hp0, w2, e1, hl, hpN, hqN]; with_reducible rfl) ?_ | refine wq (by simp [hi2, hie, hp, hq, hpl, hql, hp0, w2, e1, hl, hpN, hqN]; with_reducible rfl) ?_ | refine wt (by simpa [hi2, hie, hp, hq, hpl, hql, hp0, w2, e1, hl, hpN, hqN]) ?_ | refine wf (by simpa [hi2, hie, hp, hq, hpl, hql, hp0, w2, e1, hl, hpN, hqN]) ?_ | refine xt (by simpa [hi2, hie, hp, hq, hpl, hql, hp0, w2, e1, hl, hpN, hqN]) ?_ | refine xf (by simpa [hi2, hie, hp, hq, hpl, hql, hp0, w2, e1, hl, hpN, hqN]) ?_ | apply wp_bs | apply wp_b | refine wp_sr ?_ | refine wp_sx ?_ | refine wp_ret' ?_ | refine wp_skip' ?_ | refine wp_exit' ?_)
    simp [if_impl_subgraphs_F1]

/-- The lists of numbers on the way: one less at p, then at q, and back. -/
structure Dec (left l1 l2 l3 : List Int) (p q : Nat) (hp : p < left.length) (hq : q < left.length) : Prop where
  e1 : left.set p (left[p] - 1) = l1
  n1 : l1.length = left.length
  g1 : ∀ h : q < l1.length, l1[q] = left[q]
  e2 : l1.set q (left[q] - 1) = l2
  n2 : l2.length = left.length
  g2 : ∀ h : p < l2.length, l2[p] = left[p] - 1
  e3 : l2.set p (left[p]) = l3
  n3 : l3.length = left.length
  g3 : ∀ h : q < l3.length, l3[q] = left[q] - 1
  e4 : l3.set q (left[q]) = left

set_option maxHeartbeats 2000000 in
theorem sg_take (n : Int) (from_ : List (Int × Int)) (c : Bool) (F : Lab) (caps : List IV) (i p q N : Nat) (hi2 : i < from_.length) (hfl : from_.length ≤ 900) (hp : from_[i].1 = p) (hq : from_[i].2 = q) (left l1 l2 l3 : List Int) (hl : left.length = N) (hpN : p < N) (hqN : q < N)
    (hpl : p < left.length) (hql : q < left.length) (hD : Dec left l1 l2 l3 p q hpl hql) (bp : left[p] ≤ 1000) (bq : left[q] ≤ 1000)
    (hp0 : 0 < left[p]) (hq0 : 0 < left[q]) (ch ch' : IV) (chosen : List (Int × Int)) (hch : EdRep ch chosen) (hcl : chosen.length ≤ 950) (bs bs1 bs' : Boxes) (Es : List Boxes) (b1 b : Bool)
    (e1 : Ev tb l_impl_subgraphs_F1 [] (I ((i + 1 : Nat) : Int) :: capsW) (bs :: boxW n 2 from_ c F caps l2 (O2 (chosen ++ [((p : Int), (q : Int))])) :: (Es ++ [[[I p, I q]]])) ⟨Bo b1, [], bs1 :: boxW n 2 from_ c F caps l2 (O2 (chosen ++ [((p : Int), (q : Int))])) :: (Es ++ [[[I p, I q]]]), []⟩)
    (e2 : b1 = true → Ev tb l_impl_subgraphs_F1 [] (I ((i + 1 : Nat) : Int) :: capsW) (bs1 :: boxW n 2 from_ c F caps left (O2 chosen) :: (Es ++ [[[I p, I q]]])) ⟨Bo b, [], bs' :: boxW n 2 from_ c F caps left ch' :: (Es ++ [[[I p, I q]]]), []⟩)
    (e3 : b1 = false → b = false ∧ bs' = bs1 ∧ ch' = O2 chosen) :
    Ev tb l_impl_subgraphs_F1 [] (I i :: capsW) (bs :: boxW n 2 from_ c F caps left ch :: Es) ⟨Bo b, [], bs' :: boxW n 2 from_ c F caps left ch' :: Es, []⟩ := by
  obtain ⟨d1, n1, g1, d2, n2, g2, d3, n3, g3, d4⟩ := hD
  have hie : ¬ (i : Int) = from_.length := by omega
  have w2 : IntKind.i64.wrap ((i : Int) + 1) = (i : Int) + 1 := wrap64 (by omega) (by omega)
  have w3 : IntKind.i64.wrap (left[p] - 1) = left[p] - 1 := wrap64 (by omega) (by omega)
  have w4 : IntKind.i64.wrap (left[q] - 1) = left[q] - 1 := wrap64 (by omega) (by omega)
  have w5 : IntKind.i64.wrap left[p] = left[p] := wrap64 (by omega) (by omega)
  have w6 : IntKind.i64.wrap left[q] = left[q] := wrap64 (by omega) (by omega)
  have w7 : IntKind.i64.wrap (chosen.length : Int) = (chosen.length : Int) := wrap64 (by omega) (by omega)
  have e1 := ev_lim e1
  rw [show ((i + 1 : Nat) : Int) = (i : Int) + 1 by omega] at e1
  rw [hl] at n1 n2 n3
  have hcl1 : chosen.length + 1 ≤ 274877906944 := by omega
  have hct : (chosen ++ [((p : Int), (q : Int))]).take chosen.length = chosen := by simp
  simp only [boxW, capsW] at e1 ⊢
  cases b1 with
  | false =>
    obtain ⟨rfl, rfl, rfl⟩ := e3 rfl
    rcases hch with rfl | ⟨rfl, rfl⟩
    · refine call_of_wp tb_impl_subgraphs_F1 rfl ?_
      repeat (first | apply wp_as | apply wp_ss | refine wr (by simp [hi2, hie, hp, hq, hp0, hq0, w2, hl, hpN, hqN, hpl, hql, w3, w4, w5, w6, d1, n1, g1, d2, n2, g2, d3, n3, g3, d4, e1, hcl1, hct, w7, show IntKind.i64.wrap 0 = 0 from rfl]; with_reducible rfl) ?_ | refine wq (by simp [hi2, hie, hp, hq, hp0, hq0, w2, hl, hpN, hqN, hpl, hql, w3, w4, w5, w6, d1, n1, g1, d2, n2, g2, d3, n3, g3, d4, e1, hcl1, hct, w7, show IntKind.i64.wrap 0 = 0 from rfl]; with_reducible rfl) ?_ | refine wt (by simpa [hi2, hie, hp, hq, hp0, hq0, w2, hl, hpN, hqN, hpl, hql, w3, w4, w5, w6, d1, n1, g1, d2, n2, g2, d3, n3, g3, d4, e1, hcl1, hct, w7, show IntKind.i64.wrap 0 = 0 from rfl]) ?_ | refine wf (by simpa [hi2, hie, hp, hq, hp0, hq0, w2, hl, hpN, hqN, hpl, hql, w3, w4, w5, w6, d1, n1, g1, d2, n2, g2, d3, n3, g3, d4, e1, hcl1, hct, w7, show IntKind.i64.wrap 0 = 0 from rfl]) ?_ | refine xt (by simpa [hi2, hie, hp, hq, hp0, hq0, w2, hl, hpN, hqN, hpl, hql, w3, w4, w5, w6, d1, n1, g1, d2, n2, g2, d3, n3, g3, d4, e1, hcl1, hct, w7, show IntKind.i64.wrap 0 = 0 from rfl]) ?_ | refine xf (by simpa [hi2, hie, hp, hq, hp0, hq0, w2, hl, hpN, hqN, hpl, hql, w3, w4, w5, w6, d1, n1, g1, d2, n2, g2, d3, n3, g3, d4, e1, hcl1, hct, w7, show IntKind.i64.wrap 0 = 0 from rfl]) ?_ | apply wp_bs | apply wp_b | refine wp_sr ?_ | refine wp_sx ?_ | refine wp_ret' ?_ | refine wp_skip' ?_ | refine wp_exit' ?_)
      simp [if_impl_subgraphs_F1]
    · simp only [List.nil_append, List.length_nil, O2, show eds [((p : Int), (q : Int))] = [[I p, I q]] from rfl] at e1 hcl1 hct w7
      refine call_of_wp tb_impl_subgraphs_F1 rfl ?_
      repeat (first | apply wp_as | apply wp_ss | refine wr (by simp [hi2, hie, hp, hq, hp0, hq0, w2, hl, hpN, hqN, hpl, hql, w3, w4, w5, w6, d1, n1, g1, d2, n2, g2, d3, n3, g3, d4, e1, hcl1, hct, w7, show IntKind.i64.wrap 0 = 0 from rfl]; with_reducible rfl) ?_ | refine wq (by simp [hi2, hie, hp, hq, hp0, hq0, w2, hl, hpN, hqN, hpl, hql, w3, w4, w5, w6, d1, n1, g1, d2, n2, g2, d3, n3, g3, d4, e1, hcl1, hct, w7, show IntKind.i64.wrap 0 = 0 from rfl]; with_reducible rfl) ?_ | refine wt (by simpa [hi2, hie, hp, hq, hp0, hq0, w2, hl, hpN, hqN, hpl, hql, w3, w4, w5, w6, d1, n1, g1, d2, n2, g2, d3, n3, g3, d4, e1, hcl1, hct, w7, show IntKind.i64.wrap 0 = 0 from rfl]) ?_ | refine wf (by simpa [hi2, hie, hp, hq, hp0, hq0, w2, hl, hpN, hqN, hpl, hql, w3, w4, w5, w6, d1, n1, g1, d2, n2, g2, d3, n3, g3, d4, e1, hcl1, hct, w7, show IntKind.i64.wrap 0 = 0 from rfl]) ?_ | refine xt (by simpa [hi2, hie, hp, hq, hp0, hq0, w2, hl, hpN, hqN, hpl, hql, w3, w4, w5, w6, d1, n1, g1, d2, n2, g2, d3, n3, g3, d4, e1, hcl1, hct, w7, show IntKind.i64.wrap 0 = 0 from rfl]) ?_ | refine xf (by simpa [hi2, hie, hp, hq, hp0, hq0, w2, hl, hpN, hqN, hpl, hql, w3, w4, w5, w6, d1, n1, g1, d2, n2, g2, d3, n3, g3, d4, e1, hcl1, hct, w7, show IntKind.i64.wrap 0 = 0 from rfl]) ?_ | apply wp_bs | apply wp_b | refine wp_sr ?_ | refine wp_sx ?_ | refine wp_ret' ?_ | refine wp_skip' ?_ | refine wp_exit' ?_)
      simp [if_impl_subgraphs_F1]
  | true =>
    have e2 := ev_lim (e2 rfl)
    rw [show ((i + 1 : Nat) : Int) = (i : Int) + 1 by omega] at e2
    simp only [boxW, capsW] at e2
    rcases hch with rfl | ⟨rfl, rfl⟩
    · refine call_of_wp tb_impl_subgraphs_F1 rfl ?_
      repeat (first | apply wp_as | apply wp_ss | refine wr (by simp [hi2, hie, hp, hq, hp0, hq0, w2, hl, hpN, hqN, hpl, hql, w3, w4, w5, w6, d1, n1, g1, d2, n2, g2, d3, n3, g3, d4, e1, e2, hcl1, hct, w7, show IntKind.i64.wrap 0 = 0 from rfl]; with_reducible rfl) ?_ | refine wq (by simp [hi2, hie, hp, hq, hp0, hq0, w2, hl, hpN, hqN, hpl, hql, w3, w4, w5, w6, d1, n1, g1, d2, n2, g2, d3, n3, g3, d4, e1, e2, hcl1, hct, w7, show IntKind.i64.wrap 0 = 0 from rfl]; with_reducible rfl) ?_ | refine wt (by simpa [hi2, hie, hp, hq, hp0, hq0, w2, hl, hpN, hqN, hpl, hql, w3, w4, w5, w6, d1, n1, g1, d2, n2, g2, d3, n3, g3, d4, e1, e2, hcl1, hct, w7, show IntKind.i64.wrap 0 = 0 from rfl]) ?_ | refine wf (by simpa [hi2, hie, hp, hq, hp0, hq0, w2, hl, hpN, hqN, hpl, hql, w3, w4, w5, w6, d1, n1, g1, d2, n2, g2, d3, n3, g3, d4, e1, e2, hcl1, hct, w7, show IntKind.i64.wrap 0 = 0 from rfl]) ?_ | refine xt (by simpa [hi2, hie, hp, hq, hp0, hq0, w2, hl, hpN, hqN, hpl, hql, w3, w4, w5, w6, d1, n1, g1, d2, n2, g2, d3, n3, g3, d4, e1, e2, hcl1, hct, w7, show IntKind.i64.wrap 0 = 0 from rfl]) ?_ | refine xf (by simpa [hi2, hie, hp, hq, hp0, hq0, w2, hl, hpN, hqN, hpl, hql, w3, w4, w5, w6, d1, n1, g1, d2, n2, g2, d3, n3, g3, d4, e1, e2, hcl1, hct, w7, show IntKind.i64.wrap 0 = 0 from rfl]) ?_ | apply wp_bs | apply wp_b | refine wp_sr ?_ | refine wp_sx ?_ | refine wp_ret' ?_ | refine wp_skip' ?_ | refine wp_exit' ?_)
      simp [if_impl_subgraphs_F1]
    · simp only [List.nil_append, List.length_nil, O2, show eds [((p : Int), (q : Int))] = [[I p, I q]] from rfl] at e1 hcl1 hct w7
      simp only [O2, eds_nil] at e2
      refine call_of_wp tb_impl_subgraphs_F1 rfl ?_
      repeat (first | apply wp_as | apply wp_ss | refine wr (by simp [hi2, hie, hp, hq, hp0, hq0, w2, hl, hpN, hqN, hpl, hql, w3, w4, w5, w6, d1, n1, g1, d2, n2, g2, d3, n3, g3, d4, e1, e2, hcl1, hct, w7, show IntKind.i64.wrap 0 = 0 from rfl]; with_reducible rfl) ?_ | refine wq (by simp [hi2, hie, hp, hq, hp0, hq0, w2, hl, hpN, hqN, hpl, hql, w3, w4, w5, w6, d1, n1, g1, d2, n2, g2, d3, n3, g3, d4, e1, e2, hcl1, hct, w7, show IntKind.i64.wrap 0 = 0 from rfl]; with_reducible rfl) ?_ | refine wt (by simpa [hi2, hie, hp, hq, hp0, hq0, w2, hl, hpN, hqN, hpl, hql, w3, w4, w5, w6, d1, n1, g1, d2, n2, g2, d3, n3, g3, d4, e1, e2, hcl1, hct, w7, show IntKind.i64.wrap 0 = 0 from rfl]) ?_ | refine wf (by simpa [hi2, hie, hp, hq, hp0, hq0, w2, hl, hpN, hqN, hpl, hql, w3, w4, w5, w6, d1, n1, g1, d2, n2, g2, d3, n3, g3, d4, e1, e2, hcl1, hct, w7, show IntKind.i64.wrap 0 = 0 from rfl]) ?_ | refine xt (by simpa [hi2, hie, hp, hq, hp0, hq0, w2, hl, hpN, hqN, hpl, hql, w3, w4, w5, w6, d1, n1, g1, d2, n2, g2, d3, n3, g3, d4, e1, e2, hcl1, hct, w7, show IntKind.i64.wrap 0 = 0 from rfl]) ?_ | refine xf (by simpa [hi2, hie, hp, hq, hp0, hq0, w2, hl, hpN, hqN, hpl, hql, w3, w4, w5, w6, d1, n1, g1, d2, n2, g2, d3, n3, g3, d4, e1, e2, hcl1, hct, w7, show IntKind.i64.wrap 0 = 0 from rfl]) ?_ | apply wp_bs | apply wp_b | refine wp_sr ?_ | refine wp_sx ?_ | refine wp_ret' ?_ | refine wp_skip' ?_ | refine wp_exit' ?_)
      simp [if_impl_subgraphs_F1]

theorem dec_ok {left : List Int} {p q : Nat} (hp : p < left.length) (hq : q < left.length) (hpq : p ≠ q) :
    Dec left (left.set p (left[p] - 1)) (decAt (decAt left p) q) ((decAt (decAt left p) q).set p left[p]) p q hp hq := by
  have gp : left.getD p 0 = left[p] := by simp [List.getD_eq_getElem?_getD, List.getElem?_eq_getElem hp]
  have h1 : decAt left p = left.set p (left[p] - 1) := by rw [decAt, gp]
  have gq : (left.set p (left[p] - 1)).getD q 0 = left[q] := by
    rw [List.getD_eq_getElem?_getD, List.getElem?_set, if_neg hpq, List.getElem?_eq_getElem hq]; rfl
  have h2 : decAt (decAt left p) q = (left.set p (left[p] - 1)).set q (left[q] - 1) := by
    rw [h1, decAt, gq]
  rw [h2]
  refine ⟨rfl, by simp, fun h => ?_, rfl, by simp, fun h => ?_, rfl, by simp, fun h => ?_, ?_⟩
  · rw [List.getElem_set_ne hpq]
  · rw [List.getElem_set_ne hpq.symm, List.getElem_set_self]
  · rw [List.getElem_set_ne hpq, List.getElem_set_self]
  · refine List.ext_getElem (by simp) fun k k1 k2 => ?_
    rw [List.getElem_set, List.getElem_set, List.getElem_set, List.getElem_set]
    split
    · subst_vars; rfl
    · split
      · subst_vars; rfl
      · rfl

end Go.Idl

namespace Go.Idl

open Go

theorem subs_len : ∀ (r : List (Int × Int)) (left : List Int) (ch : List (Int × Int)), (subs r left ch).length ≤ 2 ^ r.length
  | [], left, ch => by rw [subs]; split <;> simp
  | e :: r, left, ch => by
    have h1 := subs_len r (decAt (decAt left e.1.toNat) e.2.toNat) (ch ++ [e])
    have h2 := subs_len r left ch
    rw [subs, List.length_append, List.length_cons, Nat.pow_succ]
    split
    · omega
    · simp; omega

theorem upTo_true (l : List (List (Int × Int))) : upTo (fun _ => true) l = (l, true) := by
  induction l with
  | nil => rfl
  | cons g r ih => simp [upTo, ih]

theorem upTo_len (more) : ∀ l : List (List (Int × Int)), (upTo more l).1.length ≤ l.length
  | [] => by simp [upTo]
  | g :: r => by
    have := upTo_len more r
    rw [upTo]
    split
    · simp; exact this
    · simp

theorem decAt_len (o : List Int) (i : Nat) : (decAt o i).length = o.length := by simp [decAt]

theorem sg_walk (n : Int) (e0 : Nat) (from_ : List (Int × Int)) (c : Bool) (F : Lab) (caps : List IV) (more : List (Int × Int) → Bool) (P : List (List (Int × Int)) → Boxes → Prop) (hcb : CallsBack n F caps more P) (N : Nat)
    (hfr : ∀ e ∈ from_, 0 ≤ e.1 ∧ e.1 < e.2 ∧ e.2 < N) (hfl : from_.length ≤ 900) (hN : N ≤ 1000) (he0 : e0 = 2 ∨ from_ = []) : ∀ (m i : Nat) (left : List Int) (ch : IV) (chosen : List (Int × Int)) (gl : List (List (Int × Int))) (bs : Boxes) (Es : List Boxes), i + m = from_.length → P gl bs → EdRep ch chosen →
    left.length = N → (∀ x ∈ left, x ≤ 1000) → chosen.length + m ≤ 950 → gl.length + 2 ^ m ≤ 10000000 →
    ∃ ch' bs', EdRep ch' chosen ∧ P (gl ++ (upTo more (subs (from_.drop i) left chosen)).1) bs' ∧
      Ev tb l_impl_subgraphs_F1 [] (I i :: capsW) (bs :: boxW n e0 from_ c F caps left ch :: Es) ⟨Bo (upTo more (subs (from_.drop i) left chosen)).2, [], bs' :: boxW n e0 from_ c F caps left ch' :: Es, []⟩ := by
  intro m
  induction m with
  | zero =>
    intro i left ch chosen gl bs Es hi hP hch hl hlb hcl hgl
    have h3 : i = from_.length := hi
    subst h3
    rw [List.drop_length]
    exact sg_end n e0 from_ c F caps more P hcb N hN hfl left ch chosen gl bs Es hP (by omega) hch hl (by omega)
  | succ m ih =>
    intro i left ch chosen gl bs Es hi hP hch hl hlb hcl hgl
    have hi2 : i < from_.length := by omega
    have he2 : e0 = 2 := he0.resolve_right fun h => by rw [h] at hi2; simp at hi2
    subst he2
    have hd : from_.drop i = from_[i] :: from_.drop (i + 1) := List.drop_eq_getElem_cons hi2
    rw [Nat.pow_succ] at hgl
    obtain ⟨hf1, hf2, hf3⟩ := hfr _ (List.getElem_mem hi2)
    obtain ⟨p, hp⟩ := Int.eq_ofNat_of_zero_le hf1
    obtain ⟨q, hq⟩ := Int.eq_ofNat_of_zero_le (show 0 ≤ from_[i].2 by omega)
    have hpl : p < left.length := by omega
    have hql : q < left.length := by omega
    have hpq : p ≠ q := by omega
    have gp : left.getD p 0 = left[p] := by simp [List.getD_eq_getElem?_getD, List.getElem?_eq_getElem hpl]
    have gq : left.getD q 0 = left[q] := by simp [List.getD_eq_getElem?_getD, List.getElem?_eq_getElem hql]
    have he : from_[i] = ((p : Int), (q : Int)) := Prod.ext hp hq
    rw [hd, subs]
    have tp : from_[i].1.toNat = p := by omega
    have tq : from_[i].2.toNat = q := by omega
    rw [tp, tq, gp, gq]
    by_cases hpos : 0 < left[p] ∧ 0 < left[q]
    rotate_left
    · rw [if_neg hpos, List.nil_append]
      obtain ⟨ch', bs', k1, k2, k3⟩ := ih (i + 1) left ch chosen gl bs (Es ++ [[[I p, I q]]]) (by omega) hP hch hl hlb (by omega) (by omega)
      exact ⟨ch', bs', k1, k2, sg_skip n from_ c F caps i p q N hi2 hfl hp hq left hl (by omega) (by omega) hpos ch ch' bs bs' Es _ k3⟩
    · rw [if_pos hpos, he]
      have hD := dec_ok hpl hql hpq
      have hlb2 : ∀ x ∈ decAt (decAt left p) q, x ≤ 1000 := fun x hx => by
        have one : ∀ (o : List Int) (k : Nat), (∀ x ∈ o, x ≤ 1000) → ∀ x ∈ decAt o k, x ≤ 1000 := fun o k ho x hx => by
          rcases List.mem_or_eq_of_mem_set hx with hx | rfl
          · exact ho x hx
          · rw [List.getD_eq_getElem?_getD]
            cases ho2 : o[k]? with
            | none => simp
            | some y => have := ho y (List.mem_of_getElem? ho2); simp; omega
        exact one _ q (one _ p hlb) x hx
      obtain ⟨ch1, bs1, k1, k2, k3⟩ := ih (i + 1) (decAt (decAt left p) q) (O2 (chosen ++ [((p : Int), (q : Int))])) (chosen ++ [((p : Int), (q : Int))]) gl bs (Es ++ [[[I p, I q]]]) (by omega) hP (.inl rfl) (by rw [decAt_len, decAt_len]; exact hl) hlb2 (by simp; omega) (by omega)
      have hc1 : ch1 = O2 (chosen ++ [((p : Int), (q : Int))]) := by
        rcases k1 with k1 | ⟨k1, _⟩
        · exact k1
        · simp at k1
      subst hc1
      rw [upTo_app]
      obtain ⟨b1, hb1⟩ : ∃ b1, b1 = (upTo more (subs (from_.drop (i + 1)) (decAt (decAt left p) q) (chosen ++ [((p : Int), (q : Int))]))).2 := ⟨_, rfl⟩
      rw [← hb1] at k3 ⊢
      have bp := hlb _ (List.getElem_mem hpl)
      have bq := hlb _ (List.getElem_mem hql)
      cases b1 with
      | false =>
        simp only [Bool.false_eq_true, if_false]
        rw [← hb1]
        refine ⟨O2 chosen, bs1, .inl rfl, k2, ?_⟩
        exact sg_take n from_ c F caps i p q N hi2 hfl hp hq left _ _ _ hl (by omega) (by omega) hpl hql hD bp bq hpos.1 hpos.2 ch (O2 chosen) chosen hch (by omega) bs bs1 bs1 Es false false k3 (fun h => by cases h) (fun _ => ⟨rfl, rfl, rfl⟩)
      | true =>
        simp only [if_true]
        have hgl2 : (gl ++ (upTo more (subs (from_.drop (i + 1)) (decAt (decAt left p) q) (chosen ++ [((p : Int), (q : Int))]))).1).length + 2 ^ m ≤ 10000000 := by
          have h1 := upTo_len more (subs (from_.drop (i + 1)) (decAt (decAt left p) q) (chosen ++ [((p : Int), (q : Int))]))
          have h2 := subs_len (from_.drop (i + 1)) (decAt (decAt left p) q) (chosen ++ [((p : Int), (q : Int))])
          rw [List.length_drop, show from_.length - (i + 1) = m by omega] at h2
          rw [List.length_append]; omega
        obtain ⟨ch2, bs2, j1, j2, j3⟩ := ih (i + 1) left (O2 chosen) chosen _ bs1 (Es ++ [[[I p, I q]]]) (by omega) k2 (.inl rfl) hl hlb (by omega) hgl2
        refine ⟨ch2, bs2, j1, by rw [← List.append_assoc]; exact j2, ?_⟩
        exact sg_take n from_ c F caps i p q N hi2 hfl hp hq left _ _ _ hl (by omega) (by omega) hpl hql hD bp bq hpos.1 hpos.2 ch ch2 chosen hch (by omega) bs bs1 bs2 Es true _ k3 (fun _ => j3) (fun h => by cases h)

/-- The search itself; edges may be none. -/
theorem ev_subgraphs (n : Int) (e0 : Nat) (from_ : List (Int × Int)) (c : Bool) (d : List Int) (cd : Bool) (F : Lab) (caps : List IV) (more : List (Int × Int) → Bool) (P : List (List (Int × Int)) → Boxes → Prop) (hcb : CallsBack n F caps more P)
    (he0 : e0 = 2 ∨ from_ = []) (hfr : ∀ e ∈ from_, 0 ≤ e.1 ∧ e.1 < e.2 ∧ e.2 < d.length) (hfl : from_.length ≤ 21) (hN : d.length ≤ 1000) (hd : ∀ x ∈ d, x ≤ 1000) (bs : Boxes) (hP : P [] bs) :
    ∃ bs', P (upTo more (subs from_ d [])).1 bs' ∧ Ev tb l_impl_subgraphs [] [I n, .lst e0 (eds from_) c, L d cd, .fn F caps] [bs] ⟨.tup [], [], [bs'], []⟩ := by
  obtain ⟨ch', bs', k1, k2, k3⟩ := sg_walk n e0 from_ c F caps more P hcb d.length hfr (by omega) hN he0 from_.length 0 d Z [] [] bs [] (by simp) hP (.inr ⟨rfl, rfl⟩) rfl hd (by simp; omega) (by
    have := Nat.pow_le_pow_right (show 0 < 2 by decide) hfl
    simp only [List.length_nil]; omega)
  refine ⟨bs', by simpa using k2, ?_⟩
  have e1 := ev_lim k3
  have e2 := ev_lim (ev_clone d cd (by omega))
  simp only [boxW, capsW] at e1
  rw [show ((0 : Nat) : Int) = 0 from rfl] at e1
  refine call_of_wp tb_impl_subgraphs rfl ?_
  repeat (first | apply wp_as | apply wp_ss | refine wr (by simp [e1, e2]; with_reducible rfl) ?_ | refine wq (by simp [e1, e2]; with_reducible rfl) ?_ | refine wt (by simpa [e1, e2]) ?_ | refine wf (by simpa [e1, e2]) ?_ | refine xt (by simpa [e1, e2]) ?_ | refine xf (by simpa [e1, e2]) ?_ | apply wp_bs | apply wp_b | refine wp_sr ?_ | refine wp_sx ?_ | refine wp_ret' ?_ | refine wp_skip' ?_ | refine wp_exit' ?_)
  simp [if_impl_subgraphs]

end Go.Idl

namespace Go.Idl

open Go

/-- Graphs in a slice. -/
def gls (n : Int) (gl : List (List (Int × Int))) : List (List IV) := gl.map fun es => [I n, O2 es]

@[simp] theorem gls_len (n : Int) (gl) : (gls n gl).length = gl.length := by simp [gls]

@[simp] theorem gls_one (n : Int) (gl) (es : List (Int × Int)) : gls n gl ++ [[IV.sc (.int .i64 n), .own 2 (eds es)]] = gls n (gl ++ [es]) := by simp [gls]

@[simp] theorem gls_emp (n : Int) (gl) : (gls n gl).isEmpty = gl.isEmpty := by cases gl <;> rfl

@[simp] theorem gls_take (n : Int) (gl) (k : Nat) : (gls n gl).take k = gls n (gl.take k) := by simp [gls, List.map_take]

@[simp] theorem gls_all (n : Int) (gl) : ((gls n gl).all fun x => x.all IV.isData) = true := by
  induction gl with
  | nil => rfl
  | cons x xs ih => simp only [gls, List.map_cons, List.all_cons] at *; rw [ih]; rfl

@[simp] theorem gls_noLst (n : Int) (gl) : noLstLL (gls n gl) = true := by
  induction gl with
  | nil => rfl
  | cons x xs ih => simp only [gls, List.map_cons, noLstLL, noLstL, noLstV, eds_noLst] at *; rw [ih]; rfl

def ngl (n : Int) : List (List (Int × Int)) → IV
  | [] => Z
  | g :: gl => .own 2 (gls n (g :: gl))

theorem all_F1 (n : Int) (gl : List (List (Int × Int))) (es : List (Int × Int)) (B : Boxes) (Es : List Boxes) (hl : gl.length ≤ 100000000) :
    Ev tb l_impl_AllRealizations_F1 [] [.agg [I n, O2 es], .bptr 0 0 0] ([[ngl n gl]] :: B :: Es) ⟨Bo true, [], [[ngl n (gl ++ [es])]] :: B :: Es, []⟩ := by
  cases gl with
  | nil =>
    simp only [ngl, List.nil_append]
    refine call_of_wp tb_impl_AllRealizations_F1 rfl ?_
    repeat (first | apply wp_as | apply wp_ss | refine wr (by simp; with_reducible rfl) ?_ | refine wq (by simp; with_reducible rfl) ?_ | refine wt (by simpa) ?_ | refine wf (by simpa) ?_ | refine xt (by simpa) ?_ | refine xf (by simpa) ?_ | apply wp_bs | apply wp_b | refine wp_sr ?_ | refine wp_sx ?_ | refine wp_ret' ?_ | refine wp_skip' ?_ | refine wp_exit' ?_)
    simp [if_impl_AllRealizations_F1, gls]
  | cons g gl =>
    simp only [ngl, List.cons_append]
    rw [← List.cons_append]
    have h1 : gl.length + 1 + 1 ≤ 274877906944 := by simp at hl; omega
    have h2 : (gls n (g :: gl)).take (gl.length + 1) = gls n (g :: gl) := List.take_of_length_le (by simp)
    refine call_of_wp tb_impl_AllRealizations_F1 rfl ?_
    repeat (first | apply wp_as | apply wp_ss | refine wr (by simp [h1, h2]; with_reducible rfl) ?_ | refine wq (by simp [h1, h2]; with_reducible rfl) ?_ | refine wt (by simpa [h1, h2]) ?_ | refine wf (by simpa [h1, h2]) ?_ | refine xt (by simpa [h1, h2]) ?_ | refine xf (by simpa [h1, h2]) ?_ | apply wp_bs | apply wp_b | refine wp_sr ?_ | refine wp_sx ?_ | refine wp_ret' ?_ | refine wp_skip' ?_ | refine wp_exit' ?_)
    simp [if_impl_AllRealizations_F1]

theorem calls_all (n : Int) : CallsBack n l_impl_AllRealizations_F1 [.bptr 0 0 0] (fun _ => true) (fun gl bs => bs = [[ngl n gl]]) := by
  intro gl bs es hP hl he
  exact ⟨[[ngl n (gl ++ [es])]], rfl, fun B Es => by rw [hP]; exact all_F1 n gl es B Es (by omega)⟩

theorem ev_listed (d : List Int) (c : Bool) (k : Int) (hl : d.length ≤ 1000000) : Ev tb l_impl_listed [] [L d c, I k] [] ⟨Bo (valid d && decide ((d.length : Int) ≤ k)), [], [], []⟩ := by
  have e1 := ev_lim (ev_ValidDegrees d c hl)
  cases hv : valid d with
  | false =>
    rw [hv] at e1
    refine call_of_wp tb_impl_listed rfl ?_
    repeat (first | apply wp_as | apply wp_ss | refine wr (by simp [e1]; with_reducible rfl) ?_ | refine wq (by simp [e1]; with_reducible rfl) ?_ | refine wt (by simpa [e1]) ?_ | refine wf (by simpa [e1]) ?_ | refine xt (by simpa [e1]) ?_ | refine xf (by simpa [e1]) ?_ | apply wp_bs | apply wp_b | refine wp_sr ?_ | refine wp_sx ?_ | refine wp_ret' ?_ | refine wp_skip' ?_ | refine wp_exit' ?_)
    simp [if_impl_listed]
  | true =>
    rw [hv] at e1
    refine call_of_wp tb_impl_listed rfl ?_
    repeat (first | apply wp_as | apply wp_ss | refine wr (by simp [e1]; with_reducible rfl) ?_ | refine wq (by simp [e1]; with_reducible rfl) ?_ | refine wt (by simpa [e1]) ?_ | refine wf (by simpa [e1]) ?_ | refine xt (by simpa [e1]) ?_ | refine xf (by simpa [e1]) ?_ | apply wp_bs | apply wp_b | refine wp_sr ?_ | refine wp_sx ?_ | refine wp_ret' ?_ | refine wp_skip' ?_ | refine wp_exit' ?_)
    simp [if_impl_listed]

theorem ev_ClipG (n : Int) (gl : List (List (Int × Int))) : Ev tb l_slices_Clip_Simpl_Graph_impl_Graph_ [] [ngl n gl] [] ⟨ngl n gl, [], [], []⟩ := by
  cases gl with
  | nil =>
    simp only [ngl]
    refine call_of_wp tb_slices_Clip_Simpl_Graph_impl_Graph_ rfl ?_
    repeat (first | apply wp_as | apply wp_ss | refine wr (by simp; with_reducible rfl) ?_ | refine wq (by simp; with_reducible rfl) ?_ | refine wt (by simpa) ?_ | refine wf (by simpa) ?_ | refine xt (by simpa) ?_ | refine xf (by simpa) ?_ | apply wp_bs | apply wp_b | refine wp_sr ?_ | refine wp_sx ?_ | refine wp_ret' ?_ | refine wp_skip' ?_ | refine wp_exit' ?_)
    simp [if_slices_Clip_Simpl_Graph_impl_Graph_]
  | cons g gl =>
    simp only [ngl]
    have h2 : (gls n (g :: gl)).take (gl.length + 1) = gls n (g :: gl) := List.take_of_length_le (by simp)
    refine call_of_wp tb_slices_Clip_Simpl_Graph_impl_Graph_ rfl ?_
    repeat (first | apply wp_as | apply wp_ss | refine wr (by simp [h2]; with_reducible rfl) ?_ | refine wq (by simp [h2]; with_reducible rfl) ?_ | refine wt (by simpa [h2]) ?_ | refine wf (by simpa [h2]) ?_ | refine xt (by simpa [h2]) ?_ | refine xf (by simpa [h2]) ?_ | apply wp_bs | apply wp_b | refine wp_sr ?_ | refine wp_sx ?_ | refine wp_ret' ?_ | refine wp_skip' ?_ | refine wp_exit' ?_)
    simp [if_slices_Clip_Simpl_Graph_impl_Graph_, h2]

theorem prs21 : ∀ n, n ≤ 7 → (prs n).length ≤ 21 := by decide +kernel

/-- All graphs with degrees. -/
def reals (d : List Int) : List (List (Int × Int)) := subs (prs d.length) d []

theorem ev_AllRealizations (d : List Int) (c : Bool) (hv : valid d = true) (h5 : d.length ≤ 5) : Ev tb l_impl_AllRealizations [] [L d c] [] ⟨ngl d.length (reals d), [], [], []⟩ := by
  have hf := valid_few hv
  have e1 := ev_lim (ev_listed d c 5 (by omega))
  rw [hv, decide_eq_true (by omega : (d.length : Int) ≤ 5), Bool.true_and] at e1
  have e2 := ev_lim (ev_impl_pairs d.length (by omega))
  have hpl := prs21 d.length (by omega)
  have hin : ∀ e ∈ prs d.length, 0 ≤ e.1 ∧ e.1 < e.2 ∧ e.2 < d.length := fun e he => mem_prs.1 he
  obtain ⟨bs', k1, k2⟩ : ∃ bs', (fun gl bs => bs = [[ngl d.length gl]]) (upTo (fun _ => true) (reals d)).1 bs' ∧ Ev tb l_impl_subgraphs [] [I d.length, match nl2 (prs d.length) with | .own e x => .lst e x false | x => x, L d c, .fn l_impl_AllRealizations_F1 [.bptr 0 0 0]] [[[Z]]] ⟨.tup [], [], [bs'], []⟩ := by
    unfold reals
    cases hq : prs d.length with
    | nil => exact ev_subgraphs d.length 0 [] true d c _ _ _ _ (calls_all d.length) (.inr rfl) (by simp) (by simp) (by omega) (fun x hx => by have := hf.2 x hx; omega) [[Z]] rfl
    | cons e r =>
      rw [hq] at hin hpl
      exact ev_subgraphs d.length 2 (e :: r) false d c _ _ _ _ (calls_all d.length) (.inl rfl) hin hpl (by omega) (fun x hx => by have := hf.2 x hx; omega) [[Z]] rfl
  rw [upTo_true] at k1
  simp only at k1
  subst k1
  have e3 := ev_lim k2
  have e4 := ev_lim (ev_ClipG d.length (reals d))
  generalize reals d = gl at *
  cases hq : prs d.length with
  | nil =>
    rw [hq] at e2 e3
    simp only [nl2_nil] at e2 e3
    cases gl with
    | nil =>
      simp only [ngl] at e3 e4 ⊢
      refine call_of_wp tb_impl_AllRealizations rfl ?_
      repeat (first | apply wp_as | apply wp_ss | refine wr (by simp [e1, e2, e3, e4]; with_reducible rfl) ?_ | refine wq (by simp [e1, e2, e3, e4]; with_reducible rfl) ?_ | refine wt (by simpa [e1, e2, e3, e4]) ?_ | refine wf (by simpa [e1, e2, e3, e4]) ?_ | refine xt (by simpa [e1, e2, e3, e4]) ?_ | refine xf (by simpa [e1, e2, e3, e4]) ?_ | apply wp_bs | apply wp_b | refine wp_sr ?_ | refine wp_sx ?_ | refine wp_ret' ?_ | refine wp_skip' ?_ | refine wp_exit' ?_)
      simp [if_impl_AllRealizations]
    | cons g gl =>
      simp only [ngl] at e3 e4 ⊢
      refine call_of_wp tb_impl_AllRealizations rfl ?_
      repeat (first | apply wp_as | apply wp_ss | refine wr (by simp [e1, e2, e3, e4]; with_reducible rfl) ?_ | refine wq (by simp [e1, e2, e3, e4]; with_reducible rfl) ?_ | refine wt (by simpa [e1, e2, e3, e4]) ?_ | refine wf (by simpa [e1, e2, e3, e4]) ?_ | refine xt (by simpa [e1, e2, e3, e4]) ?_ | refine xf (by simpa [e1, e2, e3, e4]) ?_ | apply wp_bs | apply wp_b | refine wp_sr ?_ | refine wp_sx ?_ | refine wp_ret' ?_ | refine wp_skip' ?_ | refine wp_exit' ?_)
      simp [if_impl_AllRealizations]
  | cons e r =>
    rw [hq] at e2 e3
    simp only [nl2_cons] at e2 e3
    have hT : (e :: r).take (r.length + 1) = e :: r := List.take_of_length_le (by simp)
    cases gl with
    | nil =>
      simp only [ngl] at e3 e4 ⊢
      refine call_of_wp tb_impl_AllRealizations rfl ?_
      repeat (first | apply wp_as | apply wp_ss | refine wr (by simp [e1, e2, e3, e4, hT]; with_reducible rfl) ?_ | refine wq (by simp [e1, e2, e3, e4, hT]; with_reducible rfl) ?_ | refine wt (by simpa [e1, e2, e3, e4, hT]) ?_ | refine wf (by simpa [e1, e2, e3, e4, hT]) ?_ | refine xt (by simpa [e1, e2, e3, e4, hT]) ?_ | refine xf (by simpa [e1, e2, e3, e4, hT]) ?_ | apply wp_bs | apply wp_b | refine wp_sr ?_ | refine wp_sx ?_ | refine wp_ret' ?_ | refine wp_skip' ?_ | refine wp_exit' ?_)
      simp [if_impl_AllRealizations]
    | cons g gl =>
      simp only [ngl] at e3 e4 ⊢
      refine call_of_wp tb_impl_AllRealizations rfl ?_
      repeat (first | apply wp_as | apply wp_ss | refine wr (by simp [e1, e2, e3, e4, hT]; with_reducible rfl) ?_ | refine wq (by simp [e1, e2, e3, e4, hT]; with_reducible rfl) ?_ | refine wt (by simpa [e1, e2, e3, e4, hT]) ?_ | refine wf (by simpa [e1, e2, e3, e4, hT]) ?_ | refine xt (by simpa [e1, e2, e3, e4, hT]) ?_ | refine xf (by simpa [e1, e2, e3, e4, hT]) ?_ | apply wp_bs | apply wp_b | refine wp_sr ?_ | refine wp_sx ?_ | refine wp_ret' ?_ | refine wp_skip' ?_ | refine wp_exit' ?_)
      simp [if_impl_AllRealizations]

end Go.Idl

namespace Go.Idl

open Go

/-- The numbers below n but one, in order. -/
def idxB (n : Nat) (but : Int) : List Int := ((List.range n).map fun v : Nat => (v : Int)).filter fun v => decide (v ≠ but)

def nlI : List Int → IV
  | [] => Z
  | x :: r => O (x :: r)

theorem ev_indices (n : Nat) (but : Int) (hn : n ≤ 1000) : Ev tb l_impl_indices [] [I n, I but] [] ⟨nlI (idxB n but), [], [], []⟩ := by
  have loop : ∀ (m i : Nat), i + m = n → wp tb (.loop ic_impl_indices_l8) { T := [(1, I but), (5, nlI (idxB i but)), (7, I n), (8, I i)], loc := [], M := [] }
      (fun ex st => ex = .exit 0 ∧ st = { T := [(1, I but), (5, nlI (idxB n but)), (7, I n), (8, I n), (9, Bo false)], loc := [], M := [] }) := by
    intro m
    induction m with
    | zero =>
      intro i hi
      have h3 : i = n := hi
      subst h3
      cases idxB i but with
      | nil =>
        simp only [nlI]
        refine wp_loop ?_
        repeat (first | apply wp_as | apply wp_ss | refine wr (by simp; with_reducible rfl) ?_ | refine wq (by simp; with_reducible rfl) ?_ | refine wt (by simpa) ?_ | refine wf (by simpa) ?_ | refine xt (by simpa) ?_ | refine xf (by simpa) ?_ | apply wp_bs | apply wp_b | refine wp_sr ?_ | refine wp_sx ?_ | refine wp_ret' ?_ | refine wp_skip' ?_ | refine wp_exit' ?_)
        exact ⟨rfl, rfl⟩
      | cons x r =>
        simp only [nlI]
        refine wp_loop ?_
        repeat (first | apply wp_as | apply wp_ss | refine wr (by simp; with_reducible rfl) ?_ | refine wq (by simp; with_reducible rfl) ?_ | refine wt (by simpa) ?_ | refine wf (by simpa) ?_ | refine xt (by simpa) ?_ | refine xf (by simpa) ?_ | apply wp_bs | apply wp_b | refine wp_sr ?_ | refine wp_sx ?_ | refine wp_ret' ?_ | refine wp_skip' ?_ | refine wp_exit' ?_)
        exact ⟨rfl, rfl⟩
    | succ m ih =>
      intro i hi
      have hi2 : i < n := by omega
      have w2 : IntKind.i64.wrap ((i : Int) + 1) = ((i + 1 : Nat) : Int) := wrapS (by omega)
      have hn2 := ih (i + 1) (by omega)
      have hs : idxB (i + 1) but = idxB i but ++ if (i : Int) = but then [] else [(i : Int)] := by
        simp only [idxB, List.range_succ, List.map_append, List.map_cons, List.map_nil, List.filter_append, List.filter_cons, List.filter_nil]
        congr 1
        by_cases h : (i : Int) = but <;> simp [h]
      rw [hs] at hn2
      have hal : (idxB i but).length ≤ i := Nat.le_trans (List.length_filter_le _ _) (by simp)
      generalize idxB i but = A at *
      by_cases hb : but = (i : Int)
      · subst hb
        rw [if_pos rfl, List.append_nil] at hn2
        cases A with
        | nil =>
          rw [show nlI [] = Z from rfl] at hn2 ⊢
          refine wp_loop ?_
          repeat (first | apply wp_as | apply wp_ss | refine wr (by simp [hi2, w2]; with_reducible rfl) ?_ | refine wq (by simp [hi2, w2]; with_reducible rfl) ?_ | refine wt (by simpa [hi2, w2]) ?_ | refine wf (by simpa [hi2, w2]) ?_ | refine xt (by simpa [hi2, w2]) ?_ | refine xf (by simpa [hi2, w2]) ?_ | apply wp_bs | apply wp_b | refine wp_sr ?_ | refine wp_sx ?_ | refine wp_ret' ?_ | refine wp_skip' ?_ | refine wp_exit' ?_)
          exact hn2
        | cons x r =>
          rw [show nlI (x :: r) = O (x :: r) from rfl] at hn2 ⊢
          refine wp_loop ?_
          repeat (first | apply wp_as | apply wp_ss | refine wr (by simp [hi2, w2]; with_reducible rfl) ?_ | refine wq (by simp [hi2, w2]; with_reducible rfl) ?_ | refine wt (by simpa [hi2, w2]) ?_ | refine wf (by simpa [hi2, w2]) ?_ | refine xt (by simpa [hi2, w2]) ?_ | refine xf (by simpa [hi2, w2]) ?_ | apply wp_bs | apply wp_b | refine wp_sr ?_ | refine wp_sx ?_ | refine wp_ret' ?_ | refine wp_skip' ?_ | refine wp_exit' ?_)
          exact hn2
      · have hb' : ¬ (i : Int) = but := fun h => hb h.symm
        rw [if_neg hb'] at hn2
        cases A with
        | nil =>
          rw [List.nil_append, show nlI [(i : Int)] = O [(i : Int)] from rfl] at hn2
          rw [show nlI [] = Z from rfl]
          refine wp_loop ?_
          repeat (first | apply wp_as | apply wp_ss | refine wr (by simp [hi2, w2, hb']; with_reducible rfl) ?_ | refine wq (by simp [hi2, w2, hb']; with_reducible rfl) ?_ | refine wt (by simpa [hi2, w2, hb']) ?_ | refine wf (by simpa [hi2, w2, hb']) ?_ | refine xt (by simpa [hi2, w2, hb']) ?_ | refine xf (by simpa [hi2, w2, hb']) ?_ | apply wp_bs | apply wp_b | refine wp_sr ?_ | refine wp_sx ?_ | refine wp_ret' ?_ | refine wp_skip' ?_ | refine wp_exit' ?_)
          exact hn2
        | cons x r =>
          rw [show nlI (x :: r ++ [(i : Int)]) = O (x :: r ++ [(i : Int)]) from rfl] at hn2
          rw [show nlI (x :: r) = O (x :: r) from rfl]
          have hal1 : r.length + 1 + 1 ≤ 274877906944 := by simp at hal; omega
          have hat : (x :: r).take (r.length + 1) = x :: r := List.take_of_length_le (by simp)
          refine wp_loop ?_
          repeat (first | apply wp_as | apply wp_ss | refine wr (by simp [hi2, w2, hb', hal1, hat]; with_reducible rfl) ?_ | refine wq (by simp [hi2, w2, hb', hal1, hat]; with_reducible rfl) ?_ | refine wt (by simpa [hi2, w2, hb', hal1, hat]) ?_ | refine wf (by simpa [hi2, w2, hb', hal1, hat]) ?_ | refine xt (by simpa [hi2, w2, hb', hal1, hat]) ?_ | refine xf (by simpa [hi2, w2, hb', hal1, hat]) ?_ | apply wp_bs | apply wp_b | refine wp_sr ?_ | refine wp_sx ?_ | refine wp_ret' ?_ | refine wp_skip' ?_ | refine wp_exit' ?_)
          exact hn2
  refine call_of_wp tb_impl_indices rfl ?_
  repeat (first | apply wp_as | apply wp_ss | refine wr (by simp; with_reducible rfl) ?_ | refine wq (by simp; with_reducible rfl) ?_ | refine wt (by simpa) ?_ | refine wf (by simpa) ?_ | refine xt (by simpa) ?_ | refine xf (by simpa) ?_ | apply wp_bs | apply wp_b | refine wp_sr ?_ | refine wp_sx ?_ | refine wp_ret' ?_ | refine wp_skip' ?_ | refine wp_exit' ?_)
  refine wp_imp (loop n 0 (by simp)) ?_
  rintro ex st ⟨rfl, rfl⟩
  try simp only [if_true]
  cases idxB n but with
  | nil =>
    simp only [nlI]
    repeat (first | apply wp_as | apply wp_ss | refine wr (by simp; with_reducible rfl) ?_ | refine wq (by simp; with_reducible rfl) ?_ | refine wt (by simpa) ?_ | refine wf (by simpa) ?_ | refine xt (by simpa) ?_ | refine xf (by simpa) ?_ | apply wp_bs | apply wp_b | refine wp_sr ?_ | refine wp_sx ?_ | refine wp_ret' ?_ | refine wp_skip' ?_ | refine wp_exit' ?_)
    simp [if_impl_indices]
  | cons x r =>
    simp only [nlI]
    repeat (first | apply wp_as | apply wp_ss | refine wr (by simp; with_reducible rfl) ?_ | refine wq (by simp; with_reducible rfl) ?_ | refine wt (by simpa) ?_ | refine wf (by simpa) ?_ | refine xt (by simpa) ?_ | refine xf (by simpa) ?_ | apply wp_bs | apply wp_b | refine wp_sr ?_ | refine wp_sx ?_ | refine wp_ret' ?_ | refine wp_skip' ?_ | refine wp_exit' ?_)
    simp [if_impl_indices]

end Go.Idl

namespace Go.Idl

/-- Only the part from a up to b was changed, and in order only. -/
structure Seg {α : Type} (X X' : List α) (a b : Nat) : Prop where
  perm : X'.Perm X
  out : ∀ k, k < a ∨ b ≤ k → X'[k]? = X[k]?

theorem Seg.len {α : Type} {X X' : List α} {a b : Nat} (h : Seg X X' a b) : X'.length = X.length := h.perm.length_eq

theorem Seg.refl {α : Type} (X : List α) (a b : Nat) : Seg X X a b := ⟨.refl _, fun _ _ => rfl⟩

theorem Seg.trans {α : Type} {X Y Z : List α} {a b : Nat} (h : Seg X Y a b) (k : Seg Y Z a b) : Seg X Z a b := ⟨k.perm.trans h.perm, fun i hi => (k.out i hi).trans (h.out i hi)⟩

theorem Seg.nodup {α : Type} {X Y : List α} {a b : Nat} (h : Seg X Y a b) (hn : X.Nodup) : Y.Nodup := h.perm.nodup_iff.2 hn

/-- Two places changed. -/
def swapL {α : Type} (X : List α) (i j : Nat) (hi : i < X.length) (hj : j < X.length) : List α := (X.set i X[j]).set j X[i]

theorem swapL_len {α : Type} (X : List α) (i j : Nat) (hi hj) : (swapL X i j hi hj).length = X.length := by simp [swapL]

theorem swapL_get {α : Type} (X : List α) (i j : Nat) (hi : i < X.length) (hj : j < X.length) (k : Nat) : (swapL X i j hi hj)[k]? = if k = j then some X[i] else if k = i then some X[j] else X[k]? := by
  rw [swapL, List.getElem?_set, List.getElem?_set]
  by_cases h1 : k = j
  · subst h1; simp [hj]
  · by_cases h2 : k = i
    · subst h2; simp [hi, h1, Ne.symm h1]
    · simp [h1, h2, Ne.symm h1, Ne.symm h2]

theorem swapL_perm {α : Type} (X : List α) (i j : Nat) (hi : i < X.length) (hj : j < X.length) : (swapL X i j hi hj).Perm X := by
  exact List.set_set_perm hi hj

theorem swapL_seg {α : Type} (X : List α) (i j a b : Nat) (hi : i < X.length) (hj : j < X.length) (h1 : a ≤ i ∧ i < b) (h2 : a ≤ j ∧ j < b) : Seg X (swapL X i j hi hj) a b :=
  ⟨swapL_perm X i j hi hj, fun k hk => by rw [swapL_get, if_neg (by omega), if_neg (by omega)]⟩

/-- What stands in the part stood there. -/
theorem Seg.back {α : Type} {X Y : List α} {a b : Nat} (h : Seg X Y a b) (hn : X.Nodup) {k : Nat} (hk : a ≤ k ∧ k < b) {e : α} (he : Y[k]? = some e) : ∃ l, (a ≤ l ∧ l < b) ∧ X[l]? = some e := by
  have hm : e ∈ X := h.perm.mem_iff.1 (List.mem_of_getElem? he)
  obtain ⟨l, hl, rfl⟩ := List.getElem_of_mem hm
  by_cases hlb : a ≤ l ∧ l < b
  · exact ⟨l, hlb, List.getElem?_eq_getElem hl⟩
  · have h1 := h.out l (by omega)
    rw [List.getElem?_eq_getElem hl] at h1
    have hny := h.nodup hn
    have hkl : k < Y.length := (List.getElem?_eq_some_iff.1 he).1
    have hll : l < Y.length := by rw [h.len]; exact hl
    have h2 := (List.getElem?_eq_some_iff.1 he).2
    have h3 := (List.getElem?_eq_some_iff.1 h1).2
    have h4 : k = l := (List.getElem_inj hny).1 (h2.trans h3.symm)
    omega

end Go.Idl

namespace Go.Idl

open Go

def BelowOn (X : List (Int × Int)) (lo hi : Nat) (x : Int × Int) : Prop := ∀ k e, lo ≤ k → k < hi → X[k]? = some e → below e x = true

def AboveOn (X : List (Int × Int)) (lo hi : Nat) (x : Int × Int) : Prop := ∀ k e, lo ≤ k → k < hi → X[k]? = some e → below e x = false

theorem AboveOn.cons {X : List (Int × Int)} {lo hi : Nat} {x : Int × Int} (h : AboveOn X (lo + 1) hi x) (hl : lo < X.length) (hb : below X[lo] x = false) : AboveOn X lo hi x := fun k e h1 h2 he => by
  by_cases hk : k = lo
  · subst hk
    rw [List.getElem?_eq_getElem hl] at he
    cases he; exact hb
  · exact h k e (by omega) h2 he

/-- What the parting keeps. -/
structure PInv (X0 X : List (Int × Int)) (a b i j : Nat) (x : Int × Int) : Prop where
  seg : Seg X0 X a b
  piv : X[a]? = some x
  lo : BelowOn X (a + 1) i x
  hi : AboveOn X (j + 1) b x
  ai : a + 1 ≤ i
  ij : i ≤ j + 1
  jb : j < b
  bl : b ≤ X.length

theorem PInv.swap {X0 X a b i j x} (h : PInv X0 X a b i j x) (hi : i < X.length) (hj : j < X.length) (hij : i ≤ j) (h1 : below X[i] x = false) (h2 : below X[j] x = true) :
    ∃ q, j = q + 1 ∧ i < j ∧ PInv X0 (swapL X i j hi hj) a b (i + 1) q x := by
  have hne : i ≠ j := by rintro rfl; rw [h1] at h2; cases h2
  have hb := h.bl
  have hjb := h.jb
  have hai := h.ai
  refine ⟨j - 1, by omega, by omega, h.seg.trans (swapL_seg X i j a b hi hj (by omega) (by omega)), ?_, ?_, ?_, by omega, by omega, by omega, by rw [swapL_len]; exact hb⟩
  · rw [swapL_get, if_neg (by omega), if_neg (by omega)]; exact h.piv
  · intro k e k1 k2 he
    rw [swapL_get, if_neg (by omega)] at he
    by_cases hk : k = i
    · rw [if_pos hk] at he
      cases he; exact h2
    · rw [if_neg hk] at he
      exact h.lo k e k1 (by omega) he
  · intro k e k1 k2 he
    rw [swapL_get] at he
    by_cases hk : k = j
    · rw [if_pos hk] at he
      cases he; exact h1
    · rw [if_neg hk, if_neg (by omega)] at he
      exact h.hi k e (by omega) k2 he

end Go.Idl

namespace Go.Idl

open Go

theorem idxB_all (n : Nat) : idxB n (-1) = (List.range n).map fun v : Nat => (v : Int) := by
  rw [idxB]
  refine List.filter_eq_self.2 fun x hx => ?_
  obtain ⟨v, _, rfl⟩ := List.mem_map.1 hx
  simp

end Go.Idl

namespace Go.Idl

open Go

/-- Both ends of an edge told the lesser of their numbers. -/
def relax (o : List Int) (e : Int × Int) : List Int := (o.set e.1.toNat (min (o.getD e.1.toNat 0) (o.getD e.2.toNat 0))).set e.2.toNat (min (o.getD e.1.toNat 0) (o.getD e.2.toNat 0))

def rnds (es : List (Int × Int)) : Nat → List Int → List Int
  | 0, o => o
  | m + 1, o => rnds es m (es.foldl relax o)

theorem relax_len (o : List Int) (e : Int × Int) : (relax o e).length = o.length := by simp [relax]

theorem foldr_len (es : List (Int × Int)) : ∀ o : List Int, (es.foldl relax o).length = o.length := by
  induction es with
  | nil => intro o; rfl
  | cons e es ih => intro o; rw [List.foldl_cons, ih, relax_len]

theorem rnds_len (es : List (Int × Int)) : ∀ (m : Nat) (o : List Int), (rnds es m o).length = o.length
  | 0, _ => rfl
  | m + 1, o => by rw [rnds, rnds_len es m, foldr_len]

theorem ro_in (n : Nat) (e0 : Nat) (es : List (Int × Int)) (c : Bool) (he0 : e0 = 2 ∨ es = []) (hes : ∀ e ∈ es, 0 ≤ e.1 ∧ e.1 < n ∧ 0 ≤ e.2 ∧ e.2 < n) (hel : es.length ≤ 1000) (k : Nat) : ∀ (m j : Nat) (out : List Int) (B : Boxes), j + m = es.length → out.length = n →
    wp tb (.loop ic_impl_Graph_roots_l10) { T := [(1, .bptr 0 0 0), (3, O out), (11, I n), (12, I k), (15, .lst e0 (eds es) c), (16, I es.length), (17, I j)], loc := [I n, .lst e0 (eds es) c] :: B, M := [] }
      (fun ex st => ex = .exit 2 ∧ ∃ B', st = { T := [(1, .bptr 0 0 0), (3, O ((es.drop j).foldl relax out)), (11, I n), (12, I k), (15, .lst e0 (eds es) c), (16, I es.length), (17, I es.length), (18, Bo false)], loc := [I n, .lst e0 (eds es) c] :: B', M := [] }) := by
  intro m
  induction m with
  | zero =>
    intro j out B hj hl
    have h3 : j = es.length := hj
    subst h3
    refine wp_loop ?_
    repeat (first | apply wp_as | apply wp_ss | refine wr (by simp; with_reducible rfl) ?_ | refine wq (by simp; with_reducible rfl) ?_ | refine wt (by simpa) ?_ | refine wf (by simpa) ?_ | refine xt (by simpa) ?_ | refine xf (by simpa) ?_ | apply wp_bs | apply wp_b | refine wp_sr ?_ | refine wp_sx ?_ | refine wp_ret' ?_ | refine wp_skip' ?_ | refine wp_exit' ?_)
    exact ⟨rfl, _, by simp; rfl⟩
  | succ m ih =>
    intro j out B hj hl
    have hj2 : j < es.length := by omega
    have he2 : e0 = 2 := by
      rcases he0 with h | h
      · exact h
      · rw [h] at hj2; cases hj2
    subst he2
    have hd : es.drop j = es[j] :: es.drop (j + 1) := List.drop_eq_getElem_cons hj2
    have hb := hes _ (List.getElem_mem hj2)
    obtain ⟨⟨x, y⟩, hx⟩ : ∃ e, e = es[j] := ⟨_, rfl⟩
    rw [← hx] at hb
    simp only at hb
    obtain ⟨a, rfl⟩ := Int.eq_ofNat_of_zero_le hb.1
    obtain ⟨b, rfl⟩ := Int.eq_ofNat_of_zero_le hb.2.2.1
    have hx2 := hx.symm
    have han : a < n := by omega
    have hbn : b < n := by omega
    have ha : a < out.length := by omega
    have hbl : b < out.length := by omega
    have w1 : IntKind.i64.wrap ((j : Int) + 1) = ((j + 1 : Nat) : Int) := wrapS (by omega)
    have hmn : (if out[b] < out[a] then out[b] else out[a]) = min out[a] out[b] := by split <;> omega
    have hn := ih (j + 1) (relax out ((a : Int), (b : Int))) (B ++ [[I a, I b]]) (by omega) (by rw [relax_len, hl])
    have ga : out.getD a 0 = out[a] := by rw [List.getD_eq_getElem?_getD, List.getElem?_eq_getElem ha]; rfl
    have gb : out.getD b 0 = out[b] := by rw [List.getD_eq_getElem?_getD, List.getElem?_eq_getElem hbl]; rfl
    have hr : relax out ((a : Int), (b : Int)) = (out.set a (min out[a] out[b])).set b (min out[a] out[b]) := by
      simp only [relax, Int.toNat_natCast, ga, gb]
    rw [hd, ← hx, List.foldl_cons]
    rw [hr] at hn ⊢
    refine wp_loop ?_
    repeat (first | apply wp_as | apply wp_ss | refine wr (by simp [hj2, hx2, ha, hbl, hl, hmn, han, hbn]; with_reducible rfl) ?_ | refine wq (by simp [hj2, hx2, ha, hbl, hl, hmn, han, hbn]; with_reducible rfl) ?_ | refine wt (by simpa [hj2, hx2, ha, hbl, hl, hmn, han, hbn]) ?_ | refine wf (by simpa [hj2, hx2, ha, hbl, hl, hmn, han, hbn]) ?_ | refine xt (by simpa [hj2, hx2, ha, hbl, hl, hmn, han, hbn]) ?_ | refine xf (by simpa [hj2, hx2, ha, hbl, hl, hmn, han, hbn]) ?_ | apply wp_bs | apply wp_b | refine wp_sr ?_ | refine wp_sx ?_ | refine wp_ret' ?_ | refine wp_skip' ?_ | refine wp_exit' ?_)
    refine wp_ra (by simp [ha, hbl, hl, han, hbn]; with_reducible rfl) (by simp; with_reducible rfl) ?_ ?_
    · intro p hp
      simp only [List.mem_cons, List.not_mem_nil, or_false] at hp
      subst hp
      exact ⟨_, by simp [ha, hbl, hl, han, hbn]; with_reducible rfl, by simp⟩
    repeat (first | apply wp_as | apply wp_ss | refine wr (by simp [w1]; with_reducible rfl) ?_ | refine wq (by simp [w1]; with_reducible rfl) ?_ | refine wt (by simpa [w1]) ?_ | refine wf (by simpa [w1]) ?_ | refine xt (by simpa [w1]) ?_ | refine xf (by simpa [w1]) ?_ | apply wp_bs | apply wp_b | refine wp_sr ?_ | refine wp_sx ?_ | refine wp_ret' ?_ | refine wp_skip' ?_ | refine wp_exit' ?_)
    exact hn

theorem ro_out (n : Nat) (e0 : Nat) (es : List (Int × Int)) (c : Bool) (he0 : e0 = 2 ∨ es = []) (hes : ∀ e ∈ es, 0 ≤ e.1 ∧ e.1 < n ∧ 0 ≤ e.2 ∧ e.2 < n) (hel : es.length ≤ 1000) (hn7 : n ≤ 7) : ∀ (m k : Nat) (out : List Int) (B : Boxes), k + m = n → out.length = n →
    wp tb (.loop ic_impl_Graph_roots_l12) { T := [(1, .bptr 0 0 0), (3, O out), (11, I n), (12, I k)], loc := [I n, .lst e0 (eds es) c] :: B, M := [] }
      (fun ex st => ex = .exit 0 ∧ ∃ B', st = { T := [(1, .bptr 0 0 0), (3, O (rnds es m out)), (11, I n), (12, I n), (13, Bo false)], loc := [I n, .lst e0 (eds es) c] :: B', M := [] }) := by
  intro m
  induction m with
  | zero =>
    intro k out B hk hl
    have h3 : k = n := hk
    subst h3
    refine wp_loop ?_
    repeat (first | apply wp_as | apply wp_ss | refine wr (by simp; with_reducible rfl) ?_ | refine wq (by simp; with_reducible rfl) ?_ | refine wt (by simpa) ?_ | refine wf (by simpa) ?_ | refine xt (by simpa) ?_ | refine xf (by simpa) ?_ | apply wp_bs | apply wp_b | refine wp_sr ?_ | refine wp_sx ?_ | refine wp_ret' ?_ | refine wp_skip' ?_ | refine wp_exit' ?_)
    exact ⟨rfl, _, rfl⟩
  | succ m ih =>
    intro k out B hk hl
    have hk2 : k < n := by omega
    have w1 : IntKind.i64.wrap ((k : Int) + 1) = ((k + 1 : Nat) : Int) := wrapS (by omega)
    refine wp_loop ?_
    repeat (first | apply wp_as | apply wp_ss | refine wr (by simp [hk2]; with_reducible rfl) ?_ | refine wq (by simp [hk2]; with_reducible rfl) ?_ | refine wt (by simpa [hk2]) ?_ | refine wf (by simpa [hk2]) ?_ | refine xt (by simpa [hk2]) ?_ | refine xf (by simpa [hk2]) ?_ | apply wp_bs | apply wp_b | refine wp_sr ?_ | refine wp_sx ?_ | refine wp_ret' ?_ | refine wp_skip' ?_ | refine wp_exit' ?_)
    refine wp_imp (ro_in n e0 es c he0 hes hel k es.length 0 out B (by omega) hl) ?_
    rintro ex st ⟨rfl, B', rfl⟩
    simp only [if_true, List.drop_zero]
    repeat (first | apply wp_as | apply wp_ss | refine wr (by simp [w1]; with_reducible rfl) ?_ | refine wq (by simp [w1]; with_reducible rfl) ?_ | refine wt (by simpa [w1]) ?_ | refine wf (by simpa [w1]) ?_ | refine xt (by simpa [w1]) ?_ | refine xf (by simpa [w1]) ?_ | apply wp_bs | apply wp_b | refine wp_sr ?_ | refine wp_sx ?_ | refine wp_ret' ?_ | refine wp_skip' ?_ | refine wp_exit' ?_)
    exact ih (k + 1) (es.foldl relax out) B' (by omega) (by rw [foldr_len, hl])

theorem ev_roots (n : Nat) (hn1 : 1 ≤ n) (hn7 : n ≤ 7) (e0 : Nat) (es : List (Int × Int)) (c : Bool) (he0 : e0 = 2 ∨ es = []) (hes : ∀ e ∈ es, 0 ≤ e.1 ∧ e.1 < n ∧ 0 ≤ e.2 ∧ e.2 < n) (hel : es.length ≤ 1000) :
    Ev tb l_impl_Graph_roots [] [.agg [I n, .lst e0 (eds es) c]] [] ⟨O (rnds es n (idxB n (-1))), [], [], []⟩ := by
  have e1 := ev_lim (ev_indices n (-1) (by omega))
  have hil : (idxB n (-1)).length = n := by rw [idxB_all]; simp
  have loop := ro_out n e0 es c he0 hes hel hn7 n 0 (idxB n (-1)) [] (by omega) hil
  rw [show ((0 : Nat) : Int) = 0 from rfl] at loop
  generalize idxB n (-1) = L at *
  cases L with
  | nil => simp at hil; omega
  | cons x L =>
    simp only [nlI] at e1
    refine call_of_wp tb_impl_Graph_roots rfl ?_
    repeat (first | apply wp_as | apply wp_ss | refine wr (by simp [e1]; with_reducible rfl) ?_ | refine wq (by simp [e1]; with_reducible rfl) ?_ | refine wt (by simpa [e1]) ?_ | refine wf (by simpa [e1]) ?_ | refine xt (by simpa [e1]) ?_ | refine xf (by simpa [e1]) ?_ | apply wp_bs | apply wp_b | refine wp_sr ?_ | refine wp_sx ?_ | refine wp_ret' ?_ | refine wp_skip' ?_ | refine wp_exit' ?_)
    refine wp_imp loop ?_
    rintro ex st ⟨rfl, B', rfl⟩
    simp only [if_true]
    repeat (first | apply wp_as | apply wp_ss | refine wr (by simp; with_reducible rfl) ?_ | refine wq (by simp; with_reducible rfl) ?_ | refine wt (by simpa) ?_ | refine wf (by simpa) ?_ | refine xt (by simpa) ?_ | refine xf (by simpa) ?_ | apply wp_bs | apply wp_b | refine wp_sr ?_ | refine wp_sx ?_ | refine wp_ret' ?_ | refine wp_skip' ?_ | refine wp_exit' ?_)
    simp [if_impl_Graph_roots]

end Go.Idl

namespace Go.Idl

open Go

/-- A string. -/
abbrev Str (s : ByteArray) : IV := .sc (.string s)

def strs (l : List ByteArray) : List (List IV) := l.map fun s => [Str s]

@[simp] theorem strs_len (l : List ByteArray) : (strs l).length = l.length := by simp [strs]

@[simp] theorem strs_get (l : List ByteArray) (i : Nat) (h : i < (strs l).length) : (strs l)[i] = [IV.sc (.string (l[i]'(by simpa [strs] using h)))] := by simp [strs]

@[simp] theorem strs_get? (l : List ByteArray) (i : Nat) : (strs l)[i]? = l[i]?.map fun s => [IV.sc (.string s)] := by simp [strs]

end Go.Idl

namespace Go.Idl

open Go

/-- Graphs in a slice, as they are handed on. -/
abbrev GF := List (List (Int × Int) × Bool)

def glf (n : Int) (R : GF) : List (List IV) := R.map fun x => [I n, L2 x.1 x.2]

@[simp] theorem glf_len (n : Int) (R : GF) : (glf n R).length = R.length := by simp [glf]

@[simp] theorem glf_nil (n : Int) : glf n [] = [] := rfl

@[simp] theorem glf_app (n : Int) (R S : GF) : glf n R ++ glf n S = glf n (R ++ S) := by simp [glf]

@[simp] theorem glf_take (n : Int) (R : GF) (k : Nat) : (glf n R).take k = glf n (R.take k) := by simp [glf, List.map_take]

@[simp] theorem glf_all (n : Int) (R : GF) : ((glf n R).all fun x => x.all IV.isData) = true := by
  induction R with
  | nil => rfl
  | cons x xs ih => simp only [glf, List.map_cons, List.all_cons] at *; rw [ih]; rfl

end Go.Idl

namespace Go.Idl

open Go

@[simp] theorem un_neg (n : Int) : Op.unary .neg (.int .i64 n) = .pure (.int .i64 (IntKind.i64.wrap (-n))) := by
  rw [← Int.zero_sub]; rfl

end Go.Idl

namespace Go.Idl

open Go

/-- A square table of zeros and ones. -/
def TT (n : Nat) (t : List (List Int)) : Prop := t.length = n ∧ ∀ r ∈ t, r.length = n ∧ ∀ x ∈ r, 0 ≤ x ∧ x ≤ 1

theorem TT.set {n : Nat} {t : List (List Int)} (h : TT n t) {a b : Nat} {v : Int} (ha : a < t.length) (hv : 0 ≤ v ∧ v ≤ 1) : TT n (t.set a (t[a].set b v)) := by
  refine ⟨by simpa using h.1, fun r hr => ?_⟩
  have h1 := h.2 _ (List.getElem_mem ha)
  rcases List.mem_or_eq_of_mem_set hr with hr | rfl
  · exact h.2 r hr
  · refine ⟨by simpa using h1.1, fun x hx => ?_⟩
    rcases List.mem_or_eq_of_mem_set hx with hx | rfl
    · exact h1.2 x hx
    · exact hv

end Go.Idl

namespace Go.Idl

open Go

/-- A matrix of zeros and ones. -/
def MM (h w : Nat) (t : List (List Int)) : Prop := t.length = h ∧ ∀ r ∈ t, r.length = w ∧ ∀ x ∈ r, 0 ≤ x ∧ x ≤ 1

end Go.Idl

namespace Go.Idl

open Go

theorem MM.sums {h w : Nat} {t : List (List Int)} (ht : MM h w t) (hw : w ≤ 5) : ∀ x ∈ t.map List.sum, 0 ≤ x ∧ x ≤ 5 := by
  intro x hx
  obtain ⟨r, hr, rfl⟩ := List.mem_map.1 hx
  have h1 := ht.2 r hr
  have := sum01 r h1.2
  omega

end Go.Idl

namespace Go.Idl

open Go

/-- A small graph, valid or not. -/
structure SmallG (n : Int) (es : List (Int × Int)) : Prop where
  n1 : -1 ≤ n
  n2 : n ≤ 8
  len : es.length ≤ 60
  el : ∀ e ∈ es, -1 ≤ e.1 ∧ e.1 ≤ 8 ∧ -1 ≤ e.2 ∧ e.2 ≤ 8

theorem SmallG.fit {n es} (h : SmallG n es) : Fit es := fun e he => by have := h.el e he; omega

end Go.Idl

namespace Go.Idl

open Go

/-- The first of the numbers from i on. -/
def rgF (n i : Nat) : List Int := ((List.range n).drop i).map fun v : Nat => (v : Int)

theorem rgF_cons {n i : Nat} (h : i < n) : rgF n i = (i : Int) :: rgF n (i + 1) := by
  rw [rgF, rgF, List.drop_eq_getElem_cons (by simpa using h)]; simp

theorem rgF_end (n : Nat) : rgF n n = [] := by simp [rgF]

end Go.Idl

namespace Go.Idl

open Go

def nlT : List (List Int) → IV
  | [] => Z
  | x :: r => OT (x :: r)

theorem ev_ClipT (t : List (List Int)) : Ev tb l_slices_Clip_SSint_Sint_ [] [nlT t] [] ⟨nlT t, [], [], []⟩ := by
  cases t with
  | nil =>
    simp only [nlT]
    refine call_of_wp tb_slices_Clip_SSint_Sint_ rfl ?_
    repeat (first | apply wp_as | apply wp_ss | refine wr (by simp; with_reducible rfl) ?_ | refine wq (by simp; with_reducible rfl) ?_ | refine wt (by simpa) ?_ | refine wf (by simpa) ?_ | refine xt (by simpa) ?_ | refine xf (by simpa) ?_ | apply wp_bs | apply wp_b | refine wp_sr ?_ | refine wp_sx ?_ | refine wp_ret' ?_ | refine wp_skip' ?_ | refine wp_exit' ?_)
    simp [if_slices_Clip_SSint_Sint_]
  | cons x t =>
    simp only [nlT]
    have h2 : (oab (x :: t)).take (t.length + 1) = oab (x :: t) := List.take_of_length_le (by simp)
    refine call_of_wp tb_slices_Clip_SSint_Sint_ rfl ?_
    repeat (first | apply wp_as | apply wp_ss | refine wr (by simp [h2]; with_reducible rfl) ?_ | refine wq (by simp [h2]; with_reducible rfl) ?_ | refine wt (by simpa [h2]) ?_ | refine wf (by simpa [h2]) ?_ | refine xt (by simpa [h2]) ?_ | refine xf (by simpa [h2]) ?_ | apply wp_bs | apply wp_b | refine wp_sr ?_ | refine wp_sx ?_ | refine wp_ret' ?_ | refine wp_skip' ?_ | refine wp_exit' ?_)
    simp [if_slices_Clip_SSint_Sint_, h2]

def inP (rt : List Int) (r : Int) (v : Int) : Bool := decide (rt.getD v.toNat 0 = r)

def isR (rt : List Int) (v : Int) : Bool := inP rt v v

def partsF (n : Nat) (rt : List Int) (i : Nat) : List (List Int) := ((rgF n i).filter (isR rt)).map fun r => (rgF n 0).filter (inP rt r)

theorem co_in (n : Nat) (hn : n ≤ 7) (rt : List Int) (hl : rt.length = n) (acc : List (List Int)) (r : Nat) (B : Boxes) : ∀ (m i : Nat) (part : List Int), i + m = n → part.length ≤ i →
    wp tb (.loop ic_impl_Graph_components_l14) { T := [(3, nlT acc), (4, O rt), (5, I r), (6, nlI part), (12, I n), (13, I r), (22, .arr (.S 4) 0 [] 1 0 n false), (23, I n), (24, I i)], loc := B, M := [] }
      (fun ex st => ex = .exit 2 ∧ st = { T := [(3, nlT acc), (4, O rt), (5, I r), (6, nlI (part ++ (rgF n i).filter (inP rt r))), (12, I n), (13, I r), (22, .arr (.S 4) 0 [] 1 0 n false), (23, I n), (24, I n), (25, Bo false)], loc := B, M := [] }) := by
  intro m
  induction m with
  | zero =>
    intro i part hi hp
    have h3 : i = n := hi
    subst h3
    rw [rgF_end, List.filter_nil, List.append_nil]
    cases acc <;> cases part <;> simp only [nlT, nlI]
    · refine wp_loop ?_
      repeat (first | apply wp_as | apply wp_ss | refine wr (by simp; with_reducible rfl) ?_ | refine wq (by simp; with_reducible rfl) ?_ | refine wt (by simpa) ?_ | refine wf (by simpa) ?_ | refine xt (by simpa) ?_ | refine xf (by simpa) ?_ | apply wp_bs | apply wp_b | refine wp_sr ?_ | refine wp_sx ?_ | refine wp_ret' ?_ | refine wp_skip' ?_ | refine wp_exit' ?_)
      exact ⟨rfl, rfl⟩
    · refine wp_loop ?_
      repeat (first | apply wp_as | apply wp_ss | refine wr (by simp; with_reducible rfl) ?_ | refine wq (by simp; with_reducible rfl) ?_ | refine wt (by simpa) ?_ | refine wf (by simpa) ?_ | refine xt (by simpa) ?_ | refine xf (by simpa) ?_ | apply wp_bs | apply wp_b | refine wp_sr ?_ | refine wp_sx ?_ | refine wp_ret' ?_ | refine wp_skip' ?_ | refine wp_exit' ?_)
      exact ⟨rfl, rfl⟩
    · refine wp_loop ?_
      repeat (first | apply wp_as | apply wp_ss | refine wr (by simp; with_reducible rfl) ?_ | refine wq (by simp; with_reducible rfl) ?_ | refine wt (by simpa) ?_ | refine wf (by simpa) ?_ | refine xt (by simpa) ?_ | refine xf (by simpa) ?_ | apply wp_bs | apply wp_b | refine wp_sr ?_ | refine wp_sx ?_ | refine wp_ret' ?_ | refine wp_skip' ?_ | refine wp_exit' ?_)
      exact ⟨rfl, rfl⟩
    · refine wp_loop ?_
      repeat (first | apply wp_as | apply wp_ss | refine wr (by simp; with_reducible rfl) ?_ | refine wq (by simp; with_reducible rfl) ?_ | refine wt (by simpa) ?_ | refine wf (by simpa) ?_ | refine xt (by simpa) ?_ | refine xf (by simpa) ?_ | apply wp_bs | apply wp_b | refine wp_sr ?_ | refine wp_sx ?_ | refine wp_ret' ?_ | refine wp_skip' ?_ | refine wp_exit' ?_)
      exact ⟨rfl, rfl⟩
  | succ m ih =>
    intro i part hi hp
    have hi2 : i < n := by omega
    have hil : i < rt.length := by omega
    have w1 : IntKind.i64.wrap ((i : Int) + 1) = ((i + 1 : Nat) : Int) := wrapS (by omega)
    have gi : rt.getD i 0 = rt[i] := by rw [List.getD_eq_getElem?_getD, List.getElem?_eq_getElem hil]; rfl
    rw [rgF_cons hi2]
    by_cases hq : rt[i] = (r : Int)
    · have hpr : inP rt r (i : Int) = true := by rw [inP, Int.toNat_natCast, gi]; exact decide_eq_true hq
      rw [List.filter_cons_of_pos hpr]
      have hn2 := ih (i + 1) (part ++ [(i : Int)]) (by omega) (by simp; omega)
      rw [List.append_assoc, List.cons_append, List.nil_append] at hn2
      have hl1 : part.length + 1 ≤ 274877906944 := by omega
      have hT : ∀ x : Int, List.take (part.length + 1) (part ++ [x]) = part ++ [x] := fun x => List.take_of_length_le (by simp)
      have hT2 : List.take part.length part = part := List.take_of_length_le (Nat.le_refl _)
      cases part with
      | nil =>
        rw [List.nil_append] at hn2 ⊢
        have hn2 : wp tb (.loop ic_impl_Graph_components_l14) { T := [(3, nlT acc), (4, O rt), (5, I r), (6, O [(i : Int)]), (12, I n), (13, I r), (22, .arr (.S 4) 0 [] 1 0 n false), (23, I n), (24, I ((i + 1 : Nat) : Int))], loc := B, M := [] } _ := hn2
        cases acc <;> simp only [nlT, nlI] at hn2 ⊢
        · refine wp_loop ?_
          repeat (first | apply wp_as | apply wp_ss | refine wr (by simp [hi2, hil, hl, hq, w1]; with_reducible rfl) ?_ | refine wq (by simp [hi2, hil, hl, hq, w1]; with_reducible rfl) ?_ | refine wt (by simpa [hi2, hil, hl, hq, w1]) ?_ | refine wf (by simpa [hi2, hil, hl, hq, w1]) ?_ | refine xt (by simpa [hi2, hil, hl, hq, w1]) ?_ | refine xf (by simpa [hi2, hil, hl, hq, w1]) ?_ | apply wp_bs | apply wp_b | refine wp_sr ?_ | refine wp_sx ?_ | refine wp_ret' ?_ | refine wp_skip' ?_ | refine wp_exit' ?_)
          exact hn2
        · refine wp_loop ?_
          repeat (first | apply wp_as | apply wp_ss | refine wr (by simp [hi2, hil, hl, hq, w1]; with_reducible rfl) ?_ | refine wq (by simp [hi2, hil, hl, hq, w1]; with_reducible rfl) ?_ | refine wt (by simpa [hi2, hil, hl, hq, w1]) ?_ | refine wf (by simpa [hi2, hil, hl, hq, w1]) ?_ | refine xt (by simpa [hi2, hil, hl, hq, w1]) ?_ | refine xf (by simpa [hi2, hil, hl, hq, w1]) ?_ | apply wp_bs | apply wp_b | refine wp_sr ?_ | refine wp_sx ?_ | refine wp_ret' ?_ | refine wp_skip' ?_ | refine wp_exit' ?_)
          exact hn2
      | cons y ys =>
        rw [List.cons_append] at hn2
        simp only [List.length_cons, List.cons_append] at hl1 hT hT2
        have hn2 : wp tb (.loop ic_impl_Graph_components_l14) { T := [(3, nlT acc), (4, O rt), (5, I r), (6, O (y :: (ys ++ [(i : Int)]))), (12, I n), (13, I r), (22, .arr (.S 4) 0 [] 1 0 n false), (23, I n), (24, I ((i + 1 : Nat) : Int))], loc := B, M := [] } _ := hn2
        cases acc <;> simp only [nlT, nlI] at hn2 ⊢
        · refine wp_loop ?_
          repeat (first | apply wp_as | apply wp_ss | refine wr (by simp [hi2, hil, hl, hq, w1, hl1, hT, hT2]; with_reducible rfl) ?_ | refine wq (by simp [hi2, hil, hl, hq, w1, hl1, hT, hT2]; with_reducible rfl) ?_ | refine wt (by simpa [hi2, hil, hl, hq, w1, hl1, hT, hT2]) ?_ | refine wf (by simpa [hi2, hil, hl, hq, w1, hl1, hT, hT2]) ?_ | refine xt (by simpa [hi2, hil, hl, hq, w1, hl1, hT, hT2]) ?_ | refine xf (by simpa [hi2, hil, hl, hq, w1, hl1, hT, hT2]) ?_ | apply wp_bs | apply wp_b | refine wp_sr ?_ | refine wp_sx ?_ | refine wp_ret' ?_ | refine wp_skip' ?_ | refine wp_exit' ?_)
          exact hn2
        · refine wp_loop ?_
          repeat (first | apply wp_as | apply wp_ss | refine wr (by simp [hi2, hil, hl, hq, w1, hl1, hT, hT2]; with_reducible rfl) ?_ | refine wq (by simp [hi2, hil, hl, hq, w1, hl1, hT, hT2]; with_reducible rfl) ?_ | refine wt (by simpa [hi2, hil, hl, hq, w1, hl1, hT, hT2]) ?_ | refine wf (by simpa [hi2, hil, hl, hq, w1, hl1, hT, hT2]) ?_ | refine xt (by simpa [hi2, hil, hl, hq, w1, hl1, hT, hT2]) ?_ | refine xf (by simpa [hi2, hil, hl, hq, w1, hl1, hT, hT2]) ?_ | apply wp_bs | apply wp_b | refine wp_sr ?_ | refine wp_sx ?_ | refine wp_ret' ?_ | refine wp_skip' ?_ | refine wp_exit' ?_)
          exact hn2
    · have hpr : ¬ inP rt r (i : Int) = true := by rw [inP, Int.toNat_natCast, gi, decide_eq_true_eq]; exact hq
      rw [List.filter_cons_of_neg hpr]
      have hn2 := ih (i + 1) part (by omega) (by omega)
      cases acc <;> cases part <;> simp only [nlT, nlI] at hn2 ⊢
      · refine wp_loop ?_
        repeat (first | apply wp_as | apply wp_ss | refine wr (by simp [hi2, hil, hl, hq, w1]; with_reducible rfl) ?_ | refine wq (by simp [hi2, hil, hl, hq, w1]; with_reducible rfl) ?_ | refine wt (by simpa [hi2, hil, hl, hq, w1]) ?_ | refine wf (by simpa [hi2, hil, hl, hq, w1]) ?_ | refine xt (by simpa [hi2, hil, hl, hq, w1]) ?_ | refine xf (by simpa [hi2, hil, hl, hq, w1]) ?_ | apply wp_bs | apply wp_b | refine wp_sr ?_ | refine wp_sx ?_ | refine wp_ret' ?_ | refine wp_skip' ?_ | refine wp_exit' ?_)
        exact hn2
      · refine wp_loop ?_
        repeat (first | apply wp_as | apply wp_ss | refine wr (by simp [hi2, hil, hl, hq, w1]; with_reducible rfl) ?_ | refine wq (by simp [hi2, hil, hl, hq, w1]; with_reducible rfl) ?_ | refine wt (by simpa [hi2, hil, hl, hq, w1]) ?_ | refine wf (by simpa [hi2, hil, hl, hq, w1]) ?_ | refine xt (by simpa [hi2, hil, hl, hq, w1]) ?_ | refine xf (by simpa [hi2, hil, hl, hq, w1]) ?_ | apply wp_bs | apply wp_b | refine wp_sr ?_ | refine wp_sx ?_ | refine wp_ret' ?_ | refine wp_skip' ?_ | refine wp_exit' ?_)
        exact hn2
      · refine wp_loop ?_
        repeat (first | apply wp_as | apply wp_ss | refine wr (by simp [hi2, hil, hl, hq, w1]; with_reducible rfl) ?_ | refine wq (by simp [hi2, hil, hl, hq, w1]; with_reducible rfl) ?_ | refine wt (by simpa [hi2, hil, hl, hq, w1]) ?_ | refine wf (by simpa [hi2, hil, hl, hq, w1]) ?_ | refine xt (by simpa [hi2, hil, hl, hq, w1]) ?_ | refine xf (by simpa [hi2, hil, hl, hq, w1]) ?_ | apply wp_bs | apply wp_b | refine wp_sr ?_ | refine wp_sx ?_ | refine wp_ret' ?_ | refine wp_skip' ?_ | refine wp_exit' ?_)
        exact hn2
      · refine wp_loop ?_
        repeat (first | apply wp_as | apply wp_ss | refine wr (by simp [hi2, hil, hl, hq, w1]; with_reducible rfl) ?_ | refine wq (by simp [hi2, hil, hl, hq, w1]; with_reducible rfl) ?_ | refine wt (by simpa [hi2, hil, hl, hq, w1]) ?_ | refine wf (by simpa [hi2, hil, hl, hq, w1]) ?_ | refine xt (by simpa [hi2, hil, hl, hq, w1]) ?_ | refine xf (by simpa [hi2, hil, hl, hq, w1]) ?_ | apply wp_bs | apply wp_b | refine wp_sr ?_ | refine wp_sx ?_ | refine wp_ret' ?_ | refine wp_skip' ?_ | refine wp_exit' ?_)
        exact hn2

theorem nlI_filter {xs : List Int} {p : Int → Bool} {r : Int} (h : r ∈ xs) (hp : p r = true) : ∃ y ys, xs.filter p = y :: ys := by
  cases hq : xs.filter p with
  | nil => have : r ∈ xs.filter p := List.mem_filter.2 ⟨h, hp⟩; rw [hq] at this; cases this
  | cons y ys => exact ⟨y, ys, rfl⟩

theorem mem_rgF {n i : Nat} {x : Int} : x ∈ rgF n i ↔ (i : Int) ≤ x ∧ x < n := by
  rw [rgF, List.mem_map]
  constructor
  · rintro ⟨a, ha, rfl⟩
    obtain ⟨j, hj, rfl⟩ := List.mem_iff_getElem.1 ha
    simp only [List.length_drop, List.length_range] at hj
    simp only [List.getElem_drop, List.getElem_range]; omega
  · rintro ⟨h1, h2⟩
    obtain ⟨k, rfl⟩ := Int.eq_ofNat_of_zero_le (show 0 ≤ x by omega)
    refine ⟨k, List.mem_iff_getElem.2 ⟨k - i, by simp; omega, ?_⟩, rfl⟩
    simp only [List.getElem_drop, List.getElem_range]; omega

theorem co_out (n : Nat) (hn : n ≤ 7) (rt : List Int) (hl : rt.length = n) (B : Boxes) : ∀ (m r : Nat) (acc : List (List Int)), r + m = n → acc.length ≤ r →
    wp tb (.loop ic_impl_Graph_components_l17) { T := [(3, nlT acc), (4, O rt), (12, I n), (13, I r)], loc := B, M := [] }
      (fun ex st => ex = .exit 0 ∧ st = { T := [(3, nlT (acc ++ partsF n rt r)), (4, O rt), (12, I n), (13, I n), (14, Bo false)], loc := B, M := [] }) := by
  intro m
  induction m with
  | zero =>
    intro r acc hr ha
    have h3 : r = n := hr
    subst h3
    rw [partsF, rgF_end, List.filter_nil, List.map_nil, List.append_nil]
    cases acc <;> simp only [nlT]
    · refine wp_loop ?_
      repeat (first | apply wp_as | apply wp_ss | refine wr (by simp; with_reducible rfl) ?_ | refine wq (by simp; with_reducible rfl) ?_ | refine wt (by simpa) ?_ | refine wf (by simpa) ?_ | refine xt (by simpa) ?_ | refine xf (by simpa) ?_ | apply wp_bs | apply wp_b | refine wp_sr ?_ | refine wp_sx ?_ | refine wp_ret' ?_ | refine wp_skip' ?_ | refine wp_exit' ?_)
      exact ⟨rfl, rfl⟩
    · refine wp_loop ?_
      repeat (first | apply wp_as | apply wp_ss | refine wr (by simp; with_reducible rfl) ?_ | refine wq (by simp; with_reducible rfl) ?_ | refine wt (by simpa) ?_ | refine wf (by simpa) ?_ | refine xt (by simpa) ?_ | refine xf (by simpa) ?_ | apply wp_bs | apply wp_b | refine wp_sr ?_ | refine wp_sx ?_ | refine wp_ret' ?_ | refine wp_skip' ?_ | refine wp_exit' ?_)
      exact ⟨rfl, rfl⟩
  | succ m ih =>
    intro r acc hr ha
    have hr2 : r < n := by omega
    have hrl : r < rt.length := by omega
    have w1 : IntKind.i64.wrap ((r : Int) + 1) = ((r + 1 : Nat) : Int) := wrapS (by omega)
    have gi : rt.getD r 0 = rt[r] := by rw [List.getD_eq_getElem?_getD, List.getElem?_eq_getElem hrl]; rfl
    rw [partsF, rgF_cons hr2]
    by_cases hq : rt[r] = (r : Int)
    · have hpr : isR rt (r : Int) = true := by rw [isR, inP, Int.toNat_natCast, gi]; exact decide_eq_true hq
      rw [List.filter_cons_of_pos hpr, List.map_cons]
      obtain ⟨y, ys, hy⟩ := nlI_filter (xs := rgF n 0) (p := inP rt r) (mem_rgF.2 ⟨by omega, by omega⟩) hpr
      have hn2 := ih (r + 1) (acc ++ [(rgF n 0).filter (inP rt r)]) (by omega) (by simp; omega)
      rw [List.append_assoc, List.cons_append, List.nil_append, partsF] at hn2
      have inner := co_in n hn rt hl acc r B n 0 [] (by omega) (by simp)
      rw [List.nil_append, hy] at inner
      rw [hy] at hn2 ⊢
      have e1 := ev_lim (ev_Clip (y :: ys))
      have hl1 : acc.length + 1 ≤ 274877906944 := by omega
      have hT : ∀ x : List Int, List.take (acc.length + 1) (acc ++ [x]) = acc ++ [x] := fun x => List.take_of_length_le (by simp)
      have hT2 : List.take acc.length acc = acc := List.take_of_length_le (Nat.le_refl _)
      cases acc with
      | nil =>
        simp only [List.nil_append, nlT, nlI] at hn2 inner ⊢
        rw [show ((0 : Nat) : Int) = 0 from rfl] at inner
        refine wp_loop ?_
        repeat (first | apply wp_as | apply wp_ss | refine wr (by simp [hr2, hrl, hl, hq]; with_reducible rfl) ?_ | refine wq (by simp [hr2, hrl, hl, hq]; with_reducible rfl) ?_ | refine wt (by simpa [hr2, hrl, hl, hq]) ?_ | refine wf (by simpa [hr2, hrl, hl, hq]) ?_ | refine xt (by simpa [hr2, hrl, hl, hq]) ?_ | refine xf (by simpa [hr2, hrl, hl, hq]) ?_ | apply wp_bs | apply wp_b | refine wp_sr ?_ | refine wp_sx ?_ | refine wp_ret' ?_ | refine wp_skip' ?_ | refine wp_exit' ?_)
        refine wp_imp inner ?_
        rintro ex st ⟨rfl, rfl⟩
        simp only [if_true]
        repeat (first | apply wp_as | apply wp_ss | refine wr (by simp [e1, w1]; with_reducible rfl) ?_ | refine wq (by simp [e1, w1]; with_reducible rfl) ?_ | refine wt (by simpa [e1, w1]) ?_ | refine wf (by simpa [e1, w1]) ?_ | refine xt (by simpa [e1, w1]) ?_ | refine xf (by simpa [e1, w1]) ?_ | apply wp_bs | apply wp_b | refine wp_sr ?_ | refine wp_sx ?_ | refine wp_ret' ?_ | refine wp_skip' ?_ | refine wp_exit' ?_)
        exact hn2
      | cons a as =>
        simp only [List.cons_append, nlT, nlI] at hn2 inner ⊢
        simp only [List.length_cons, List.cons_append] at hl1 hT hT2
        rw [show ((0 : Nat) : Int) = 0 from rfl] at inner
        refine wp_loop ?_
        repeat (first | apply wp_as | apply wp_ss | refine wr (by simp [hr2, hrl, hl, hq]; with_reducible rfl) ?_ | refine wq (by simp [hr2, hrl, hl, hq]; with_reducible rfl) ?_ | refine wt (by simpa [hr2, hrl, hl, hq]) ?_ | refine wf (by simpa [hr2, hrl, hl, hq]) ?_ | refine xt (by simpa [hr2, hrl, hl, hq]) ?_ | refine xf (by simpa [hr2, hrl, hl, hq]) ?_ | apply wp_bs | apply wp_b | refine wp_sr ?_ | refine wp_sx ?_ | refine wp_ret' ?_ | refine wp_skip' ?_ | refine wp_exit' ?_)
        refine wp_imp inner ?_
        rintro ex st ⟨rfl, rfl⟩
        simp only [if_true]
        repeat (first | apply wp_as | apply wp_ss | refine wr (by simp [e1, w1, hl1, hT, hT2]; with_reducible rfl) ?_ | refine wq (by simp [e1, w1, hl1, hT, hT2]; with_reducible rfl) ?_ | refine wt (by simpa [e1, w1, hl1, hT, hT2]) ?_ | refine wf (by simpa [e1, w1, hl1, hT, hT2]) ?_ | refine xt (by simpa [e1, w1, hl1, hT, hT2]) ?_ | refine xf (by simpa [e1, w1, hl1, hT, hT2]) ?_ | apply wp_bs | apply wp_b | refine wp_sr ?_ | refine wp_sx ?_ | refine wp_ret' ?_ | refine wp_skip' ?_ | refine wp_exit' ?_)
        exact hn2
    · have hpr : ¬ isR rt (r : Int) = true := by rw [isR, inP, Int.toNat_natCast, gi, decide_eq_true_eq]; exact hq
      rw [List.filter_cons_of_neg hpr]
      have hn2 := ih (r + 1) acc (by omega) (by omega)
      cases acc <;> simp only [nlT] at hn2 ⊢
      · refine wp_loop ?_
        repeat (first | apply wp_as | apply wp_ss | refine wr (by simp [hr2, hrl, hl, hq, w1]; with_reducible rfl) ?_ | refine wq (by simp [hr2, hrl, hl, hq, w1]; with_reducible rfl) ?_ | refine wt (by simpa [hr2, hrl, hl, hq, w1]) ?_ | refine wf (by simpa [hr2, hrl, hl, hq, w1]) ?_ | refine xt (by simpa [hr2, hrl, hl, hq, w1]) ?_ | refine xf (by simpa [hr2, hrl, hl, hq, w1]) ?_ | apply wp_bs | apply wp_b | refine wp_sr ?_ | refine wp_sx ?_ | refine wp_ret' ?_ | refine wp_skip' ?_ | refine wp_exit' ?_)
        exact hn2
      · refine wp_loop ?_
        repeat (first | apply wp_as | apply wp_ss | refine wr (by simp [hr2, hrl, hl, hq, w1]; with_reducible rfl) ?_ | refine wq (by simp [hr2, hrl, hl, hq, w1]; with_reducible rfl) ?_ | refine wt (by simpa [hr2, hrl, hl, hq, w1]) ?_ | refine wf (by simpa [hr2, hrl, hl, hq, w1]) ?_ | refine xt (by simpa [hr2, hrl, hl, hq, w1]) ?_ | refine xf (by simpa [hr2, hrl, hl, hq, w1]) ?_ | apply wp_bs | apply wp_b | refine wp_sr ?_ | refine wp_sx ?_ | refine wp_ret' ?_ | refine wp_skip' ?_ | refine wp_exit' ?_)
        exact hn2

/-- The components, as the program finds them. -/
def compI (n : Nat) (es : List (Int × Int)) : List (List Int) := partsF n (rnds es n (idxB n (-1))) 0

theorem ev_components (n : Nat) (hn1 : 1 ≤ n) (hn7 : n ≤ 7) (e0 : Nat) (es : List (Int × Int)) (c : Bool) (he0 : e0 = 2 ∨ es = []) (hes : ∀ e ∈ es, 0 ≤ e.1 ∧ e.1 < n ∧ 0 ≤ e.2 ∧ e.2 < n) (hel : es.length ≤ 1000) :
    Ev tb l_impl_Graph_components [] [.agg [I n, .lst e0 (eds es) c]] [] ⟨nlT (compI n es), [], [], []⟩ := by
  have e1 := ev_lim (ev_roots n hn1 hn7 e0 es c he0 hes hel)
  have hrl : (rnds es n (idxB n (-1))).length = n := by rw [rnds_len, idxB_all]; simp
  rw [compI]
  generalize rnds es n (idxB n (-1)) = rt at *
  have loop := co_out n hn7 rt hrl [[I n, .lst e0 (eds es) c]] n 0 [] (by omega) (by simp)
  rw [List.nil_append, show ((0 : Nat) : Int) = 0 from rfl] at loop
  simp only [nlT] at loop
  have e2 := ev_lim (ev_ClipT (partsF n rt 0))
  generalize partsF n rt 0 = P at *
  refine call_of_wp tb_impl_Graph_components rfl ?_
  repeat (first | apply wp_as | apply wp_ss | refine wr (by simp [e1]; with_reducible rfl) ?_ | refine wq (by simp [e1]; with_reducible rfl) ?_ | refine wt (by simpa [e1]) ?_ | refine wf (by simpa [e1]) ?_ | refine xt (by simpa [e1]) ?_ | refine xf (by simpa [e1]) ?_ | apply wp_bs | apply wp_b | refine wp_sr ?_ | refine wp_sx ?_ | refine wp_ret' ?_ | refine wp_skip' ?_ | refine wp_exit' ?_)
  refine wp_imp loop ?_
  rintro ex st ⟨rfl, rfl⟩
  simp only [if_true]
  cases P with
  | nil =>
    simp only [nlT] at e2 ⊢
    repeat (first | apply wp_as | apply wp_ss | refine wr (by simp [e2]; with_reducible rfl) ?_ | refine wq (by simp [e2]; with_reducible rfl) ?_ | refine wt (by simpa [e2]) ?_ | refine wf (by simpa [e2]) ?_ | refine xt (by simpa [e2]) ?_ | refine xf (by simpa [e2]) ?_ | apply wp_bs | apply wp_b | refine wp_sr ?_ | refine wp_sx ?_ | refine wp_ret' ?_ | refine wp_skip' ?_ | refine wp_exit' ?_)
    simp [if_impl_Graph_components]
  | cons p P =>
    simp only [nlT] at e2 ⊢
    repeat (first | apply wp_as | apply wp_ss | refine wr (by simp [e2]; with_reducible rfl) ?_ | refine wq (by simp [e2]; with_reducible rfl) ?_ | refine wt (by simpa [e2]) ?_ | refine wf (by simpa [e2]) ?_ | refine xt (by simpa [e2]) ?_ | refine xf (by simpa [e2]) ?_ | apply wp_bs | apply wp_b | refine wp_sr ?_ | refine wp_sx ?_ | refine wp_ret' ?_ | refine wp_skip' ?_ | refine wp_exit' ?_)
    simp [if_impl_Graph_components]

theorem ev_IsConnected (n : Nat) (hn1 : 1 ≤ n) (e0 : Nat) (es : List (Int × Int)) (c : Bool) (he0 : e0 = 2 ∨ es = []) (hel : es.length ≤ 1000) (hv : vGraph n es = true) (v1 : limF tb l_impl_ValidGraph [] [.agg [I n, .lst e0 (eds es) c]] [] = some ⟨Bo true, [], [], []⟩) :
    Ev tb l_impl_IsConnected [] [.agg [I n, .lst e0 (eds es) c]] [] ⟨Bo (decide ((compI n es).length = 1)), [], [], []⟩ := by
  have hes : ∀ e ∈ es, 0 ≤ e.1 ∧ e.1 < n ∧ 0 ≤ e.2 ∧ e.2 < n := fun e he => by have := mem_prs.1 ((vG_iff.1 hv).2.1 e he); omega
  have e1 := ev_lim (ev_components n hn1 (vG_iff.1 hv).2.2 e0 es c he0 hes hel)
  generalize compI n es = P at *
  cases P with
  | nil =>
    simp only [nlT] at e1
    refine call_of_wp tb_impl_IsConnected rfl ?_
    repeat (first | apply wp_as | apply wp_ss | refine wr (by simp [v1, e1]; with_reducible rfl) ?_ | refine wq (by simp [v1, e1]; with_reducible rfl) ?_ | refine wt (by simpa [v1, e1]) ?_ | refine wf (by simpa [v1, e1]) ?_ | refine xt (by simpa [v1, e1]) ?_ | refine xf (by simpa [v1, e1]) ?_ | apply wp_bs | apply wp_b | refine wp_sr ?_ | refine wp_sx ?_ | refine wp_ret' ?_ | refine wp_skip' ?_ | refine wp_exit' ?_)
    simp [if_impl_IsConnected]
  | cons p P =>
    simp only [nlT] at e1
    by_cases h1 : P.length = 0
    · have h1' : P = [] := List.length_eq_zero_iff.1 h1
      subst h1'
      refine call_of_wp tb_impl_IsConnected rfl ?_
      repeat (first | apply wp_as | apply wp_ss | refine wr (by simp [v1, e1]; with_reducible rfl) ?_ | refine wq (by simp [v1, e1]; with_reducible rfl) ?_ | refine wt (by simpa [v1, e1]) ?_ | refine wf (by simpa [v1, e1]) ?_ | refine xt (by simpa [v1, e1]) ?_ | refine xf (by simpa [v1, e1]) ?_ | apply wp_bs | apply wp_b | refine wp_sr ?_ | refine wp_sx ?_ | refine wp_ret' ?_ | refine wp_skip' ?_ | refine wp_exit' ?_)
      simp [if_impl_IsConnected]
    · have h2 : ¬ (P.length : Int) + 1 = 1 := by omega
      have h3 : ¬ P = [] := fun h => h1 (by rw [h]; rfl)
      refine call_of_wp tb_impl_IsConnected rfl ?_
      repeat (first | apply wp_as | apply wp_ss | refine wr (by simp [v1, e1, h1, h2]; with_reducible rfl) ?_ | refine wq (by simp [v1, e1, h1, h2]; with_reducible rfl) ?_ | refine wt (by simpa [v1, e1, h1, h2]) ?_ | refine wf (by simpa [v1, e1, h1, h2]) ?_ | refine xt (by simpa [v1, e1, h1, h2]) ?_ | refine xf (by simpa [v1, e1, h1, h2]) ?_ | apply wp_bs | apply wp_b | refine wp_sr ?_ | refine wp_sx ?_ | refine wp_ret' ?_ | refine wp_skip' ?_ | refine wp_exit' ?_)
      simp [if_impl_IsConnected, h3]
      exact h2

end Go.Idl

namespace Go.Idl

open Go

def bls (l : List Bool) : List (List IV) := l.map fun b => [Bo b]

@[simp] theorem bls_len (l : List Bool) : (bls l).length = l.length := by simp [bls]

@[simp] theorem bls_rep (n : Nat) : List.replicate n [IV.sc (Value.bool false)] = bls (List.replicate n false) := by simp [bls]

@[simp] theorem bls_get (l : List Bool) (i : Nat) (h : i < (bls l).length) : (bls l)[i] = [IV.sc (.bool (l[i]'(by simpa [bls] using h)))] := by simp [bls]

@[simp] theorem bls_get? (l : List Bool) (i : Nat) : (bls l)[i]? = l[i]?.map fun b => [IV.sc (.bool b)] := by simp [bls]

@[simp] theorem bls_set (l : List Bool) (i : Nat) (b : Bool) : (bls l).set i [IV.sc (.bool b)] = bls (l.set i b) := by simp [bls, List.map_set]

end Go.Idl

namespace Go.Idl

open Go

/-- A graph of no vertex. -/
theorem ev_IsConnected_0 (es : List (Int × Int)) (c : Bool) (v1 : limF tb l_impl_ValidGraph [] [Gr 0 es c] [] = some ⟨Bo true, [], [], []⟩) : Ev tb l_impl_IsConnected [] [Gr 0 es c] [] ⟨Bo false, [], [], []⟩ := by
  have e1 : limF tb l_impl_indices [] [I 0, I (-1)] [] = some ⟨Z, [], [], []⟩ := ev_lim (ev_indices 0 (-1) (by omega))
  have e2 : limF tb l_impl_Graph_roots [] [Gr 0 es c] [] = some ⟨Z, [], [], []⟩ := by
    refine ev_lim ?_
    refine call_of_wp tb_impl_Graph_roots rfl ?_
    repeat (first | apply wp_as | apply wp_ss | refine wr (by simp [e1]; with_reducible rfl) ?_ | refine wq (by simp [e1]; with_reducible rfl) ?_ | refine wt (by simpa [e1]) ?_ | refine wf (by simpa [e1]) ?_ | refine xt (by simpa [e1]) ?_ | refine xf (by simpa [e1]) ?_ | apply wp_bs | apply wp_b | refine wp_sr ?_ | refine wp_sx ?_ | refine wp_ret' ?_ | refine wp_skip' ?_ | refine wp_exit' ?_)
    refine wp_loop ?_
    repeat (first | apply wp_as | apply wp_ss | refine wr (by simp; with_reducible rfl) ?_ | refine wq (by simp; with_reducible rfl) ?_ | refine wt (by simpa) ?_ | refine wf (by simpa) ?_ | refine xt (by simpa) ?_ | refine xf (by simpa) ?_ | apply wp_bs | apply wp_b | refine wp_sr ?_ | refine wp_sx ?_ | refine wp_ret' ?_ | refine wp_skip' ?_ | refine wp_exit' ?_)
    simp [if_impl_Graph_roots]
  have e3 := ev_lim (ev_ClipT [])
  simp only [nlT] at e3
  have e4 : limF tb l_impl_Graph_components [] [Gr 0 es c] [] = some ⟨Z, [], [], []⟩ := by
    refine ev_lim ?_
    refine call_of_wp tb_impl_Graph_components rfl ?_
    repeat (first | apply wp_as | apply wp_ss | refine wr (by simp [e2]; with_reducible rfl) ?_ | refine wq (by simp [e2]; with_reducible rfl) ?_ | refine wt (by simpa [e2]) ?_ | refine wf (by simpa [e2]) ?_ | refine xt (by simpa [e2]) ?_ | refine xf (by simpa [e2]) ?_ | apply wp_bs | apply wp_b | refine wp_sr ?_ | refine wp_sx ?_ | refine wp_ret' ?_ | refine wp_skip' ?_ | refine wp_exit' ?_)
    refine wp_loop ?_
    repeat (first | apply wp_as | apply wp_ss | refine wr (by simp [e3]; with_reducible rfl) ?_ | refine wq (by simp [e3]; with_reducible rfl) ?_ | refine wt (by simpa [e3]) ?_ | refine wf (by simpa [e3]) ?_ | refine xt (by simpa [e3]) ?_ | refine xf (by simpa [e3]) ?_ | apply wp_bs | apply wp_b | refine wp_sr ?_ | refine wp_sx ?_ | refine wp_ret' ?_ | refine wp_skip' ?_ | refine wp_exit' ?_)
    simp [if_impl_Graph_components]
  refine call_of_wp tb_impl_IsConnected rfl ?_
  repeat (first | apply wp_as | apply wp_ss | refine wr (by simp [v1, e4]; with_reducible rfl) ?_ | refine wq (by simp [v1, e4]; with_reducible rfl) ?_ | refine wt (by simpa [v1, e4]) ?_ | refine wf (by simpa [v1, e4]) ?_ | refine xt (by simpa [v1, e4]) ?_ | refine xf (by simpa [v1, e4]) ?_ | apply wp_bs | apply wp_b | refine wp_sr ?_ | refine wp_sx ?_ | refine wp_ret' ?_ | refine wp_skip' ?_ | refine wp_exit' ?_)
  simp [if_impl_IsConnected]

end Go.Idl

namespace Go.Idl

open Go

theorem ctS_mul (d : List Int) (c : Bool) (h7 : d.length ≤ 7) : ∀ (m k : Nat), k + m = max 2 (d.length - 1) → 2 ≤ k →
    wp tb (.loop ic_spec_CountTrees_l10) { T := [(0, L d c), (3, I (facN (k - 1))), (4, I k)], loc := [], M := [] }
      (fun ex st => ex = .exit 0 ∧ ∃ x, st = { T := [(0, L d c), (3, I (facN ((d.length : Int) - 2).toNat)), (4, x), (17, Bo false)], loc := [], M := [] }) := by
  have w1 : IntKind.i64.wrap ((d.length : Int) - 2) = (d.length : Int) - 2 := wrap64 (by omega) (by omega)
  intro m
  induction m with
  | zero =>
    intro k hk h2
    have hq : ¬ (k : Int) ≤ (d.length : Int) - 2 := by omega
    have hf : facN (k - 1) = facN ((d.length : Int) - 2).toNat := by
      by_cases h3 : 3 ≤ d.length
      · congr 1; omega
      · have e1 : k - 1 = 1 := by omega
        have e2 : ((d.length : Int) - 2).toNat = 0 := by omega
        rw [e1, e2]; rfl
    rw [hf]
    refine wp_loop ?_
    repeat (first | apply wp_as | apply wp_ss | refine wr (by simp [w1, hq]; with_reducible rfl) ?_ | refine wq (by simp [w1, hq]; with_reducible rfl) ?_ | refine wt (by simpa [w1, hq]) ?_ | refine wf (by simpa [w1, hq]) ?_ | refine xt (by simpa [w1, hq]) ?_ | refine xf (by simpa [w1, hq]) ?_ | apply wp_bs | apply wp_b | refine wp_sr ?_ | refine wp_sx ?_ | refine wp_ret' ?_ | refine wp_skip' ?_ | refine wp_exit' ?_)
    exact ⟨rfl, _, rfl⟩
  | succ m ih =>
    intro k hk h2
    have hq : (k : Int) ≤ (d.length : Int) - 2 := by omega
    have hs := facN_small k (by omega)
    have hfk : facN (k - 1) * k = facN k := by
      obtain ⟨j, rfl⟩ : ∃ j, k = j + 1 := ⟨k - 1, by omega⟩
      rw [facN, Nat.add_sub_cancel, Nat.mul_comm]
    have hfi : (facN (k - 1) : Int) * (k : Int) = (facN k : Int) := by rw [← hfk, Int.natCast_mul]
    have w2 : IntKind.i64.wrap (facN k : Int) = (facN k : Int) := wrap64 (by omega) (by omega)
    have w3 : IntKind.i64.wrap ((k : Int) + 1) = ((k + 1 : Nat) : Int) := wrapS (by omega)
    have hn := ih (k + 1) (by omega) (by omega)
    rw [Nat.add_sub_cancel] at hn
    refine wp_loop ?_
    repeat (first | apply wp_as | apply wp_ss | refine wr (by simp [w1, hq, hfi, w2, w3]; with_reducible rfl) ?_ | refine wq (by simp [w1, hq, hfi, w2, w3]; with_reducible rfl) ?_ | refine wt (by simpa [w1, hq, hfi, w2, w3]) ?_ | refine wf (by simpa [w1, hq, hfi, w2, w3]) ?_ | refine xt (by simpa [w1, hq, hfi, w2, w3]) ?_ | refine xf (by simpa [w1, hq, hfi, w2, w3]) ?_ | apply wp_bs | apply wp_b | refine wp_sr ?_ | refine wp_sx ?_ | refine wp_ret' ?_ | refine wp_skip' ?_ | refine wp_exit' ?_)
    exact hn

theorem ctS_in (d : List Int) (c : Bool) (i : Nat) (hi : i < d.length) (x : Nat) (hx : d[i] = x) (h7 : x ≤ 7) (o : Nat) (ho : o ≤ 5040) : ∀ (m k : Nat), k + m = max 2 x → 2 ≤ k →
    wp tb (.loop ic_spec_CountTrees_l17) { T := [(0, L d c), (3, I ((o / facN (k - 1) : Nat) : Int)), (5, I i), (6, I k)], loc := [], M := [] }
      (fun ex st => ex = .exit 4 ∧ ∃ y, st = { T := [(0, L d c), (3, I ((o / facN (x - 1) : Nat) : Int)), (5, I i), (6, y), (34, Bo false)], loc := [], M := [] }) := by
  intro m
  induction m with
  | zero =>
    intro k hk h2
    have hq : ¬ (k : Int) < (x : Int) := by omega
    have hq' : ¬ k < x := by omega
    have hf : facN (k - 1) = facN (x - 1) := by
      by_cases h3 : 2 ≤ x
      · congr 1; omega
      · have e1 : k - 1 = 1 := by omega
        have e2 : x - 1 = 0 := by omega
        rw [e1, e2]; rfl
    rw [hf]
    refine wp_loop ?_
    repeat (first | apply wp_as | apply wp_ss | refine wr (by simp [hi, hx, hq, hq']; with_reducible rfl) ?_ | refine wq (by simp [hi, hx, hq, hq']; with_reducible rfl) ?_ | refine wt (by simpa [hi, hx, hq, hq']) ?_ | refine wf (by simpa [hi, hx, hq, hq']) ?_ | refine xt (by simpa [hi, hx, hq, hq']) ?_ | refine xf (by simpa [hi, hx, hq, hq']) ?_ | apply wp_bs | apply wp_b | refine wp_sr ?_ | refine wp_sx ?_ | refine wp_ret' ?_ | refine wp_skip' ?_ | refine wp_exit' ?_)
    exact ⟨rfl, _, rfl⟩
  | succ m ih =>
    intro k hk h2
    have hq : (k : Int) < (x : Int) := by omega
    have hq' : k < x := by omega
    have hfk : facN k = facN (k - 1) * k := by
      obtain ⟨j, rfl⟩ : ∃ j, k = j + 1 := ⟨k - 1, by omega⟩
      rw [facN, Nat.add_sub_cancel, Nat.mul_comm]
    have hn := ih (k + 1) (by omega) (by omega)
    rw [Nat.add_sub_cancel, hfk, ← Nat.div_div_eq_div_mul] at hn
    have hle : o / facN (k - 1) / k ≤ o := Nat.le_trans (Nat.div_le_self _ _) (Nat.div_le_self _ _)
    generalize o / facN (k - 1) = p at *
    have hk0 : ¬ k = 0 := by omega
    have hd : (p : Int).tdiv (k : Int) = ((p / k : Nat) : Int) := by
      rw [Int.tdiv_eq_ediv_of_nonneg (by omega)]; rfl
    generalize p / k = p' at *
    have w1 : IntKind.i64.wrap (p' : Int) = (p' : Int) := wrap64 (by omega) (by omega)
    have w3 : IntKind.i64.wrap ((k : Int) + 1) = ((k + 1 : Nat) : Int) := wrapS (by omega)
    refine wp_loop ?_
    repeat (first | apply wp_as | apply wp_ss | refine wr (by simp [hi, hx, hq, hq', hk0, hd, w1, w3]; with_reducible rfl) ?_ | refine wq (by simp [hi, hx, hq, hq', hk0, hd, w1, w3]; with_reducible rfl) ?_ | refine wt (by simpa [hi, hx, hq, hq', hk0, hd, w1, w3]) ?_ | refine wf (by simpa [hi, hx, hq, hq', hk0, hd, w1, w3]) ?_ | refine xt (by simpa [hi, hx, hq, hq', hk0, hd, w1, w3]) ?_ | refine xf (by simpa [hi, hx, hq, hq', hk0, hd, w1, w3]) ?_ | apply wp_bs | apply wp_b | refine wp_sr ?_ | refine wp_sx ?_ | refine wp_ret' ?_ | refine wp_skip' ?_ | refine wp_exit' ?_)
    exact hn

theorem ctS_out (d : List Int) (c : Bool) (hf : Few d) : ∀ (m i o : Nat), i + m = d.length → o ≤ 5040 →
    wp tb (.loop ic_spec_CountTrees_l19) { T := [(0, L d c), (3, I o), (5, I i)], loc := [], M := [] }
      (fun ex st => ex = .exit 2 ∧ st = { T := [(0, L d c), (3, I (divs (d.drop i) o)), (5, I d.length), (26, Bo false)], loc := [], M := [] }) := by
  intro m
  induction m with
  | zero =>
    intro i o hi ho
    obtain ⟨h1, h2⟩ := drop_end hi
    have h3 : i = d.length := hi
    subst h3
    refine wp_loop ?_
    repeat (first | apply wp_as | apply wp_ss | refine wr (by simp; with_reducible rfl) ?_ | refine wq (by simp; with_reducible rfl) ?_ | refine wt (by simpa) ?_ | refine wf (by simpa) ?_ | refine xt (by simpa) ?_ | refine xf (by simpa) ?_ | apply wp_bs | apply wp_b | refine wp_sr ?_ | refine wp_sx ?_ | refine wp_ret' ?_ | refine wp_skip' ?_ | refine wp_exit' ?_)
    rw [h2]; exact ⟨rfl, rfl⟩
  | succ m ih =>
    intro i o hi ho
    obtain ⟨hi2, h2, h3⟩ := drop_get hi
    have hx := hf.2 _ h3
    have hl := hf.1
    obtain ⟨x, hxe⟩ := Int.eq_ofNat_of_zero_le hx.1
    have w2 : IntKind.i64.wrap ((i : Int) + 1) = ((i + 1 : Nat) : Int) := wrapS (by omega)
    have inner := ctS_in d c i hi2 x hxe (by omega) o ho (max 2 x - 2) 2 (by omega) (by omega)
    rw [show o / facN (2 - 1) = o by simp [facN], show ((2 : Nat) : Int) = 2 from rfl] at inner
    have hxt : (d[i] - 1).toNat = x - 1 := by omega
    rw [h2, divs, hxt]
    have hle : o / facN (x - 1) ≤ o := Nat.div_le_self _ _
    have hn := ih (i + 1) (o / facN (x - 1)) (by omega) (by omega)
    generalize o / facN (x - 1) = o' at *
    refine wp_loop ?_
    repeat (first | apply wp_as | apply wp_ss | refine wr (by simp [hi2]; with_reducible rfl) ?_ | refine wq (by simp [hi2]; with_reducible rfl) ?_ | refine wt (by simpa [hi2]) ?_ | refine wf (by simpa [hi2]) ?_ | refine xt (by simpa [hi2]) ?_ | refine xf (by simpa [hi2]) ?_ | apply wp_bs | apply wp_b | refine wp_sr ?_ | refine wp_sx ?_ | refine wp_ret' ?_ | refine wp_skip' ?_ | refine wp_exit' ?_)
    refine wp_imp inner ?_
    rintro ex st ⟨rfl, y, rfl⟩
    simp only [if_true]
    repeat (first | apply wp_as | apply wp_ss | refine wr (by simp [w2]; with_reducible rfl) ?_ | refine wq (by simp [w2]; with_reducible rfl) ?_ | refine wt (by simpa [w2]) ?_ | refine wf (by simpa [w2]) ?_ | refine xt (by simpa [w2]) ?_ | refine xf (by simpa [w2]) ?_ | apply wp_bs | apply wp_b | refine wp_sr ?_ | refine wp_sx ?_ | refine wp_ret' ?_ | refine wp_skip' ?_ | refine wp_exit' ?_)
    exact hn

theorem ev_isTreeDegrees (d : List Int) (c : Bool) (hv : valid d = true) : Ev tb l_spec_isTreeDegrees [] [L d c] [] ⟨Bo (decide (d.length = 1) || (decide (1 < d.length) && (posAll d && decide (d.sum = 2 * ((d.length : Int) - 1))))), [], [], []⟩ := by
  have hf := valid_few hv
  have e2 := ev_lim (ev_spec_sum d c hf.small)
  have h7 := hf.1
  cases d with
  | nil =>
    refine call_of_wp tb_spec_isTreeDegrees rfl ?_
    repeat (first | apply wp_as | apply wp_ss | refine wr (by simp; with_reducible rfl) ?_ | refine wq (by simp; with_reducible rfl) ?_ | refine wt (by simpa) ?_ | refine wf (by simpa) ?_ | refine xt (by simpa) ?_ | refine xf (by simpa) ?_ | apply wp_bs | apply wp_b | refine wp_sr ?_ | refine wp_sx ?_ | refine wp_ret' ?_ | refine wp_skip' ?_ | refine wp_exit' ?_)
    simp [if_spec_isTreeDegrees]
  | cons x r =>
  have e3 := ev_lim (ev_smallest x r c (by simp at h7; omega))
  have w1 : IntKind.i64.wrap (r.length : Int) = (r.length : Int) := wrap64 (by omega) (by simp at h7; omega)
  have w2 : IntKind.i64.wrap (2 * (r.length : Int)) = 2 * (r.length : Int) := wrap64 (by omega) (by simp at h7; omega)
  by_cases h1 : r = []
  · subst h1
    refine call_of_wp tb_spec_isTreeDegrees rfl ?_
    repeat (first | apply wp_as | apply wp_ss | refine wr (by simp; with_reducible rfl) ?_ | refine wq (by simp; with_reducible rfl) ?_ | refine wt (by simpa) ?_ | refine wf (by simpa) ?_ | refine xt (by simpa) ?_ | refine xf (by simpa) ?_ | apply wp_bs | apply wp_b | refine wp_sr ?_ | refine wp_sx ?_ | refine wp_ret' ?_ | refine wp_skip' ?_ | refine wp_exit' ?_)
    simp [if_spec_isTreeDegrees]
  · have h2 : ¬ r.length = 0 := fun h => h1 (List.length_eq_zero_iff.1 h)
    have h3 : ¬ (r.length : Int) = 0 := by omega
    have h4 : ¬ (r.length : Int) + 1 = 1 := by omega
    have h5 : (1 : Int) < (r.length : Int) + 1 := by omega
    have h6 : (0 : Int) < (r.length : Int) := by omega
    have h6' : 0 < r.length := by omega
    rw [show posAll (x :: r) = decide (0 < least1 x r) from min_pos.symm]
    by_cases hp : 0 < least1 x r
    · refine call_of_wp tb_spec_isTreeDegrees rfl ?_
      repeat (first | apply wp_as | apply wp_ss | refine wr (by simp [e2, e3, h1, h2, h3, h4, h5, h6, hp, w1, w2]; with_reducible rfl) ?_ | refine wq (by simp [e2, e3, h1, h2, h3, h4, h5, h6, hp, w1, w2]; with_reducible rfl) ?_ | refine wt (by simpa [e2, e3, h1, h2, h3, h4, h5, h6, hp, w1, w2]) ?_ | refine wf (by simpa [e2, e3, h1, h2, h3, h4, h5, h6, hp, w1, w2]) ?_ | refine xt (by simpa [e2, e3, h1, h2, h3, h4, h5, h6, hp, w1, w2]) ?_ | refine xf (by simpa [e2, e3, h1, h2, h3, h4, h5, h6, hp, w1, w2]) ?_ | apply wp_bs | apply wp_b | refine wp_sr ?_ | refine wp_sx ?_ | refine wp_ret' ?_ | refine wp_skip' ?_ | refine wp_exit' ?_)
      simp [if_spec_isTreeDegrees, h1, hp, h6']
      try rfl
    · refine call_of_wp tb_spec_isTreeDegrees rfl ?_
      repeat (first | apply wp_as | apply wp_ss | refine wr (by simp [e2, e3, h1, h2, h3, h4, h5, h6, hp, w1, w2]; with_reducible rfl) ?_ | refine wq (by simp [e2, e3, h1, h2, h3, h4, h5, h6, hp, w1, w2]; with_reducible rfl) ?_ | refine wt (by simpa [e2, e3, h1, h2, h3, h4, h5, h6, hp, w1, w2]) ?_ | refine wf (by simpa [e2, e3, h1, h2, h3, h4, h5, h6, hp, w1, w2]) ?_ | refine xt (by simpa [e2, e3, h1, h2, h3, h4, h5, h6, hp, w1, w2]) ?_ | refine xf (by simpa [e2, e3, h1, h2, h3, h4, h5, h6, hp, w1, w2]) ?_ | apply wp_bs | apply wp_b | refine wp_sr ?_ | refine wp_sx ?_ | refine wp_ret' ?_ | refine wp_skip' ?_ | refine wp_exit' ?_)
      simp [if_spec_isTreeDegrees, h1, hp]

theorem ev_spec_CountTrees (d : List Int) (c : Bool) (hv : valid d = true) : Ev tb l_spec_CountTrees [] [L d c] [] ⟨I (if treeS d then (cntT d : Int) else 0), [], [], []⟩ := by
  have hf := valid_few hv
  have h7 := hf.1
  have e1 := ev_lim (ev_validDegrees d c (by omega))
  rw [hv] at e1
  have e2 := ev_lim (ev_isTreeDegrees d c hv)
  have hts : treeS d = (decide (d.length = 1) || (decide (1 < d.length) && (posAll d && decide (d.sum = 2 * ((d.length : Int) - 1))))) := by rw [treeS, hv, Bool.true_and]
  rw [← hts] at e2
  cases ht : treeS d with
  | false =>
    rw [ht] at e2
    refine call_of_wp tb_spec_CountTrees rfl ?_
    repeat (first | apply wp_as | apply wp_ss | refine wr (by simp [e1, e2]; with_reducible rfl) ?_ | refine wq (by simp [e1, e2]; with_reducible rfl) ?_ | refine wt (by simpa [e1, e2]) ?_ | refine wf (by simpa [e1, e2]) ?_ | refine xt (by simpa [e1, e2]) ?_ | refine xf (by simpa [e1, e2]) ?_ | apply wp_bs | apply wp_b | refine wp_sr ?_ | refine wp_sx ?_ | refine wp_ret' ?_ | refine wp_skip' ?_ | refine wp_exit' ?_)
    simp [if_spec_CountTrees]
  | true =>
  rw [ht] at e2
  have hs := facN_small ((d.length : Int) - 2).toNat (by omega)
  have m1 := ctS_mul d c h7 (max 2 (d.length - 1) - 2) 2 (by omega) (by omega)
  rw [show facN (2 - 1) = 1 from rfl, show ((1 : Nat) : Int) = 1 from rfl, show ((2 : Nat) : Int) = 2 from rfl] at m1
  rw [if_pos rfl, cntT]
  generalize facN ((d.length : Int) - 2).toNat = q at *
  refine call_of_wp tb_spec_CountTrees rfl ?_
  repeat (first | apply wp_as | apply wp_ss | refine wr (by simp [e1, e2]; with_reducible rfl) ?_ | refine wq (by simp [e1, e2]; with_reducible rfl) ?_ | refine wt (by simpa [e1, e2]) ?_ | refine wf (by simpa [e1, e2]) ?_ | refine xt (by simpa [e1, e2]) ?_ | refine xf (by simpa [e1, e2]) ?_ | apply wp_bs | apply wp_b | refine wp_sr ?_ | refine wp_sx ?_ | refine wp_ret' ?_ | refine wp_skip' ?_ | refine wp_exit' ?_)
  refine wp_imp m1 ?_
  rintro ex st ⟨rfl, x, rfl⟩
  simp only [if_true]
  repeat (first | apply wp_as | apply wp_ss | refine wr (by simp; with_reducible rfl) ?_ | refine wq (by simp; with_reducible rfl) ?_ | refine wt (by simpa) ?_ | refine wf (by simpa) ?_ | refine xt (by simpa) ?_ | refine xf (by simpa) ?_ | apply wp_bs | apply wp_b | refine wp_sr ?_ | refine wp_sx ?_ | refine wp_ret' ?_ | refine wp_skip' ?_ | refine wp_exit' ?_)
  refine wp_imp (ctS_out d c hf d.length 0 q (by simp) hs) ?_
  rintro ex st ⟨rfl, rfl⟩
  simp only [if_true]
  repeat (first | apply wp_as | apply wp_ss | refine wr (by simp; with_reducible rfl) ?_ | refine wq (by simp; with_reducible rfl) ?_ | refine wt (by simpa) ?_ | refine wf (by simpa) ?_ | refine xt (by simpa) ?_ | refine xf (by simpa) ?_ | apply wp_bs | apply wp_b | refine wp_sr ?_ | refine wp_sx ?_ | refine wp_ret' ?_ | refine wp_skip' ?_ | refine wp_exit' ?_)
  simp [if_spec_CountTrees]

theorem ev_spec_CountTrees_no (d : List Int) (c : Bool) (hv : valid d = false) (hl : d.length ≤ 1000000) : Ev tb l_spec_CountTrees [] [L d c] [] ⟨I (-1), [], [], []⟩ := by
  have e1 := ev_lim (ev_validDegrees d c hl)
  rw [hv] at e1
  refine call_of_wp tb_spec_CountTrees rfl ?_
  repeat (first | apply wp_as | apply wp_ss | refine wr (by simp [e1]; with_reducible rfl) ?_ | refine wq (by simp [e1]; with_reducible rfl) ?_ | refine wt (by simpa [e1]) ?_ | refine wf (by simpa [e1]) ?_ | refine xt (by simpa [e1]) ?_ | refine xf (by simpa [e1]) ?_ | apply wp_bs | apply wp_b | refine wp_sr ?_ | refine wp_sx ?_ | refine wp_ret' ?_ | refine wp_skip' ?_ | refine wp_exit' ?_)
  simp [if_spec_CountTrees]

theorem ev_CountTrees_no (d : List Int) (c : Bool) (hv : valid d = false) (hl : d.length ≤ 1000000) : Ev tb l_impl_CountTrees [] [L d c] [] ⟨I (-1), [], [], []⟩ := by
  have e1 := ev_lim (ev_ValidDegrees d c hl)
  rw [hv] at e1
  refine call_of_wp tb_impl_CountTrees rfl ?_
  repeat (first | apply wp_as | apply wp_ss | refine wr (by simp [e1]; with_reducible rfl) ?_ | refine wq (by simp [e1]; with_reducible rfl) ?_ | refine wt (by simpa [e1]) ?_ | refine wf (by simpa [e1]) ?_ | refine xt (by simpa [e1]) ?_ | refine xf (by simpa [e1]) ?_ | apply wp_bs | apply wp_b | refine wp_sr ?_ | refine wp_sx ?_ | refine wp_ret' ?_ | refine wp_skip' ?_ | refine wp_exit' ?_)
  simp [if_impl_CountTrees]

theorem ev_DrawCountTrees (code : List Int) (c : Bool) (h : ∀ x ∈ code, 0 ≤ x ∧ x ≤ 255) (hl : code.length ≤ 10000000) :
    ∃ d : List Int, d.length ≤ 8 ∧ Low 1000 d ∧ limF tb l_spec_DrawCountTrees [] [.lst 1 (bytes code) c] [] = some ⟨O d, [], [], []⟩ := by
  obtain ⟨d, h1, h2, e1⟩ := ev_DrawIsTreeDegrees code c h hl
  refine ⟨d, h1, h2, ev_lim ?_⟩
  refine call_of_wp tb_spec_DrawCountTrees rfl ?_
  repeat (first | apply wp_as | apply wp_ss | refine wr (by simp [e1]; with_reducible rfl) ?_ | refine wq (by simp [e1]; with_reducible rfl) ?_ | refine wt (by simpa [e1]) ?_ | refine wf (by simpa [e1]) ?_ | refine xt (by simpa [e1]) ?_ | refine xf (by simpa [e1]) ?_ | apply wp_bs | apply wp_b | refine wp_sr ?_ | refine wp_sx ?_ | refine wp_ret' ?_ | refine wp_skip' ?_ | refine wp_exit' ?_)
  simp [if_spec_DrawCountTrees]

def isTr (n : Nat) (es : List (Int × Int)) : Bool := decide ((compI n es).length = 1) && decide ((es.length : Int) = (n : Int) - 1)

/-- How many graphs with the degrees are trees. -/
def trN (d : List Int) : Nat := (reals d).countP (isTr d.length)

@[simp] theorem gls_get (n : Int) (gl : List (List (Int × Int))) (i : Nat) (h : i < (gls n gl).length) : (gls n gl)[i] = [IV.sc (.int .i64 n), .own 2 (eds (gl[i]'(by simpa [gls] using h)))] := by simp [gls]

@[simp] theorem gls_get? (n : Int) (gl : List (List (Int × Int))) (i : Nat) : (gls n gl)[i]? = gl[i]?.map fun es => [IV.sc (.int .i64 n), .own 2 (eds es)] := by simp [gls]

theorem reals_len {d : List Int} (h7 : d.length ≤ 7) : (reals d).length ≤ 10000000 := by
  have h1 := subs_len (prs d.length) d []
  have h2 : ∀ n, n ≤ 7 → (prs n).length ≤ 21 := by decide +kernel
  have h3 : (2 : Nat) ^ (prs d.length).length ≤ 2 ^ 21 := Nat.pow_le_pow_right (by omega) (h2 _ h7)
  rw [reals]; omega

set_option maxHeartbeats 4000000 in
theorem tr_loop (d : List Int) (hd : d.length ≤ 7) (out : Int) (gl : List (List (Int × Int))) (hgl : gl.length ≤ 10000000) (e1 : ∀ es ∈ gl, ∀ c, limF tb l_impl_IsConnected [] [Gr d.length es c] [] = some ⟨Bo (decide ((compI d.length es).length = 1)), [], [], []⟩) : ∀ (m k cnt : Nat), k + m = gl.length → cnt ≤ k →
    wp tb (.loop ic_laws_FnCountTrees_l14) { T := [(3, O d), (4, I out), (5, I cnt), (6, .own 2 (gls d.length gl)), (7, I k)], loc := [], M := [] }
      (fun ex st => ex = .exit 0 ∧ st = { T := [(3, O d), (4, I out), (5, I ((cnt + (gl.drop k).countP (isTr d.length) : Nat) : Int)), (6, .own 2 (gls d.length gl)), (7, I gl.length), (38, Bo false)], loc := [], M := [] }) := by
  intro m
  induction m with
  | zero =>
    intro k cnt hk hc
    have h3 : k = gl.length := hk
    subst h3
    refine wp_loop ?_
    repeat (first | apply wp_as | apply wp_ss | refine wr (by simp; with_reducible rfl) ?_ | refine wq (by simp; with_reducible rfl) ?_ | refine wt (by simpa) ?_ | refine wf (by simpa) ?_ | refine xt (by simpa) ?_ | refine xf (by simpa) ?_ | apply wp_bs | apply wp_b | refine wp_sr ?_ | refine wp_sx ?_ | refine wp_ret' ?_ | refine wp_skip' ?_ | refine wp_exit' ?_)
    exact ⟨rfl, by simp⟩
  | succ m ih =>
    intro k cnt hk hc
    have hk2 : k < gl.length := by omega
    have w1 : IntKind.i64.wrap ((k : Int) + 1) = ((k + 1 : Nat) : Int) := wrapS (by omega)
    have w2 : IntKind.i64.wrap ((cnt : Int) + 1) = ((cnt + 1 : Nat) : Int) := wrapS (by omega)
    have w3 : IntKind.i64.wrap ((d.length : Int) - 1) = (d.length : Int) - 1 := wrap64 (by omega) (by omega)
    have hdr : gl.drop k = gl[k] :: gl.drop (k + 1) := List.drop_eq_getElem_cons hk2
    have e2 := e1 _ (List.getElem_mem hk2)
    rw [hdr, List.countP_cons]
    obtain ⟨es, hes⟩ : ∃ es, es = gl[k] := ⟨_, rfl⟩
    rw [← hes] at e2 ⊢
    have hes2 := hes.symm
    have hn0 := ih (k + 1) cnt (by omega) (by omega)
    have hn1 := ih (k + 1) (cnt + 1) (by omega) (by omega)
    rw [show cnt + 1 + (gl.drop (k + 1)).countP (isTr d.length) = cnt + ((gl.drop (k + 1)).countP (isTr d.length) + 1) by omega] at hn1
    by_cases h1 : (compI d.length es).length = 1
    · rw [decide_eq_true h1] at e2
      by_cases h2 : (es.length : Int) = (d.length : Int) - 1
      · rw [if_pos (by rw [isTr, decide_eq_true h1, decide_eq_true h2]; rfl)]
        refine wp_loop ?_
        repeat (first | apply wp_as | apply wp_ss | refine wr (by simp [hk2, hes2, e2, h2, w1, w2, w3]; with_reducible rfl) ?_ | refine wq (by simp [hk2, hes2, e2, h2, w1, w2, w3]; with_reducible rfl) ?_ | refine wt (by simpa [hk2, hes2, e2, h2, w1, w2, w3]) ?_ | refine wf (by simpa [hk2, hes2, e2, h2, w1, w2, w3]) ?_ | refine xt (by simpa [hk2, hes2, e2, h2, w1, w2, w3]) ?_ | refine xf (by simpa [hk2, hes2, e2, h2, w1, w2, w3]) ?_ | apply wp_bs | apply wp_b | refine wp_sr ?_ | refine wp_sx ?_ | refine wp_ret' ?_ | refine wp_skip' ?_ | refine wp_exit' ?_)
        exact hn1
      · rw [if_neg (by rw [isTr, decide_eq_true h1, decide_eq_false h2]; simp), Nat.add_zero]
        refine wp_loop ?_
        repeat (first | apply wp_as | apply wp_ss | refine wr (by simp [hk2, hes2, e2, h2, w1, w3]; with_reducible rfl) ?_ | refine wq (by simp [hk2, hes2, e2, h2, w1, w3]; with_reducible rfl) ?_ | refine wt (by simpa [hk2, hes2, e2, h2, w1, w3]) ?_ | refine wf (by simpa [hk2, hes2, e2, h2, w1, w3]) ?_ | refine xt (by simpa [hk2, hes2, e2, h2, w1, w3]) ?_ | refine xf (by simpa [hk2, hes2, e2, h2, w1, w3]) ?_ | apply wp_bs | apply wp_b | refine wp_sr ?_ | refine wp_sx ?_ | refine wp_ret' ?_ | refine wp_skip' ?_ | refine wp_exit' ?_)
        exact hn0
    · rw [decide_eq_false h1] at e2
      rw [if_neg (by rw [isTr, decide_eq_false h1]; simp), Nat.add_zero]
      refine wp_loop ?_
      repeat (first | apply wp_as | apply wp_ss | refine wr (by simp [hk2, hes2, e2, w1]; with_reducible rfl) ?_ | refine wq (by simp [hk2, hes2, e2, w1]; with_reducible rfl) ?_ | refine wt (by simpa [hk2, hes2, e2, w1]) ?_ | refine wf (by simpa [hk2, hes2, e2, w1]) ?_ | refine xt (by simpa [hk2, hes2, e2, w1]) ?_ | refine xf (by simpa [hk2, hes2, e2, w1]) ?_ | apply wp_bs | apply wp_b | refine wp_sr ?_ | refine wp_sx ?_ | refine wp_ret' ?_ | refine wp_skip' ?_ | refine wp_exit' ?_)
      exact hn0

/-- What the law FnCountTrees says of degrees. -/
structure TrLaw (d : List Int) : Prop where
  same : treeS d = treeD d
  all : d.length ≤ 5 → (if treeD d = true then (cntT d : Int) else 0) = (trN d : Int)
  real : d.length ≤ 5 → ∀ es ∈ reals d, vGraph d.length es = true

theorem ev_FnCountTrees (law : ∀ d, valid d = true → TrLaw d) (code : List Int) (c : Bool) (h : ∀ x ∈ code, 0 ≤ x ∧ x ≤ 255) :
    Ev tb l_laws_FnCountTrees [] [.lst 1 (bytes code) c] [] ⟨Bo true, [], [], []⟩ := by
  by_cases hc : (1048576 : Int) < code.length
  · refine call_of_wp tb_laws_FnCountTrees rfl ?_
    repeat (first | apply wp_as | apply wp_ss | refine wr (by simp [hc]; with_reducible rfl) ?_ | refine wq (by simp [hc]; with_reducible rfl) ?_ | refine wt (by simpa [hc]) ?_ | refine wf (by simpa [hc]) ?_ | refine xt (by simpa [hc]) ?_ | refine xf (by simpa [hc]) ?_ | apply wp_bs | apply wp_b | refine wp_sr ?_ | refine wp_sx ?_ | refine wp_ret' ?_ | refine wp_skip' ?_ | refine wp_exit' ?_)
    simp [if_laws_FnCountTrees]
  obtain ⟨d, hd, hlo, e1⟩ := ev_DrawCountTrees code c h (by omega)
  have v1 := ev_lim (ev_ValidDegrees d false (by omega))
  cases hv : valid d with
  | false =>
    rw [hv] at v1
    have e2 := ev_lim (ev_CountTrees_no d false hv (by omega))
    have e3 := ev_lim (ev_spec_CountTrees_no d false hv (by omega))
    refine call_of_wp tb_laws_FnCountTrees rfl ?_
    repeat (first | apply wp_as | apply wp_ss | refine wr (by simp [hc, e1, e2, e3, v1]; with_reducible rfl) ?_ | refine wq (by simp [hc, e1, e2, e3, v1]; with_reducible rfl) ?_ | refine wt (by simpa [hc, e1, e2, e3, v1]) ?_ | refine wf (by simpa [hc, e1, e2, e3, v1]) ?_ | refine xt (by simpa [hc, e1, e2, e3, v1]) ?_ | refine xf (by simpa [hc, e1, e2, e3, v1]) ?_ | apply wp_bs | apply wp_b | refine wp_sr ?_ | refine wp_sx ?_ | refine wp_ret' ?_ | refine wp_skip' ?_ | refine wp_exit' ?_)
    simp [if_laws_FnCountTrees]
  | true =>
  rw [hv] at v1
  obtain ⟨l1, l2, l3⟩ := law d hv
  have e2 := ev_lim (ev_CountTrees d false hv)
  have e3 := ev_lim (ev_spec_CountTrees d false hv)
  rw [l1] at e3
  by_cases h5 : (5 : Int) < d.length
  · generalize (if treeD d = true then (cntT d : Int) else 0) = q at *
    refine call_of_wp tb_laws_FnCountTrees rfl ?_
    repeat (first | apply wp_as | apply wp_ss | refine wr (by simp [hc, e1, e2, e3, v1, h5]; with_reducible rfl) ?_ | refine wq (by simp [hc, e1, e2, e3, v1, h5]; with_reducible rfl) ?_ | refine wt (by simpa [hc, e1, e2, e3, v1, h5]) ?_ | refine wf (by simpa [hc, e1, e2, e3, v1, h5]) ?_ | refine xt (by simpa [hc, e1, e2, e3, v1, h5]) ?_ | refine xf (by simpa [hc, e1, e2, e3, v1, h5]) ?_ | apply wp_bs | apply wp_b | refine wp_sr ?_ | refine wp_sx ?_ | refine wp_ret' ?_ | refine wp_skip' ?_ | refine wp_exit' ?_)
    simp [if_laws_FnCountTrees]
  have l2 := l2 (by omega)
  have l3 := l3 (by omega)
  have hf := valid_few hv
  have h7 := hf.1
  have e4 := ev_lim (ev_AllRealizations d false hv (by omega))
  have ec : ∀ es ∈ reals d, ∀ c, limF tb l_impl_IsConnected [] [Gr d.length es c] [] = some ⟨Bo (decide ((compI d.length es).length = 1)), [], [], []⟩ := fun es he c => by
    have hvg := l3 es he
    have hfit : Fit es := fun e he => by have := mem_prs.1 ((vG_iff.1 hvg).2.1 e he); omega
    have hel : es.length ≤ 1000 := by
      have h1 := (vG_sub hvg).length_le
      have h2 : ∀ n, n ≤ 7 → (prs n).length ≤ 21 := by decide +kernel
      have := h2 _ h7
      omega
    have z1 := ev_lim (ev_ValidGraph d.length es c hfit (by omega))
    rw [hvg] at z1
    by_cases h0 : d.length = 0
    · rw [h0] at z1 ⊢
      rw [show decide ((compI 0 es).length = 1) = false from rfl]
      exact ev_lim (ev_IsConnected_0 es c z1)
    · exact ev_lim (ev_IsConnected d.length (by omega) 2 es c (.inl rfl) hel hvg z1)
  have hgl := reals_len h7
  rw [l2] at e2 e3
  rw [trN] at e2 e3
  generalize reals d = gl at *
  cases gl with
  | nil =>
    simp only [ngl, List.countP_nil] at e2 e3 e4
    rw [show ((0 : Nat) : Int) = 0 from rfl] at e2 e3
    refine call_of_wp tb_laws_FnCountTrees rfl ?_
    repeat (first | apply wp_as | apply wp_ss | refine wr (by simp [hc, e1, e2, e3, v1, h5, e4]; with_reducible rfl) ?_ | refine wq (by simp [hc, e1, e2, e3, v1, h5, e4]; with_reducible rfl) ?_ | refine wt (by simpa [hc, e1, e2, e3, v1, h5, e4]) ?_ | refine wf (by simpa [hc, e1, e2, e3, v1, h5, e4]) ?_ | refine xt (by simpa [hc, e1, e2, e3, v1, h5, e4]) ?_ | refine xf (by simpa [hc, e1, e2, e3, v1, h5, e4]) ?_ | apply wp_bs | apply wp_b | refine wp_sr ?_ | refine wp_sx ?_ | refine wp_ret' ?_ | refine wp_skip' ?_ | refine wp_exit' ?_)
    refine wp_loop ?_
    repeat (first | apply wp_as | apply wp_ss | refine wr (by simp; with_reducible rfl) ?_ | refine wq (by simp; with_reducible rfl) ?_ | refine wt (by simpa) ?_ | refine wf (by simpa) ?_ | refine xt (by simpa) ?_ | refine xf (by simpa) ?_ | apply wp_bs | apply wp_b | refine wp_sr ?_ | refine wp_sx ?_ | refine wp_ret' ?_ | refine wp_skip' ?_ | refine wp_exit' ?_)
    simp [if_laws_FnCountTrees]
  | cons g gl =>
    simp only [ngl] at e4
    have loop := tr_loop d h7 ((g :: gl).countP (isTr d.length)) (g :: gl) hgl ec (g :: gl).length 0 0 (by omega) (by omega)
    rw [List.drop_zero, Nat.zero_add, show ((0 : Nat) : Int) = 0 from rfl] at loop
    generalize (g :: gl).countP (isTr d.length) = q at *
    refine call_of_wp tb_laws_FnCountTrees rfl ?_
    repeat (first | apply wp_as | apply wp_ss | refine wr (by simp [hc, e1, e2, e3, v1, h5, e4]; with_reducible rfl) ?_ | refine wq (by simp [hc, e1, e2, e3, v1, h5, e4]; with_reducible rfl) ?_ | refine wt (by simpa [hc, e1, e2, e3, v1, h5, e4]) ?_ | refine wf (by simpa [hc, e1, e2, e3, v1, h5, e4]) ?_ | refine xt (by simpa [hc, e1, e2, e3, v1, h5, e4]) ?_ | refine xf (by simpa [hc, e1, e2, e3, v1, h5, e4]) ?_ | apply wp_bs | apply wp_b | refine wp_sr ?_ | refine wp_sx ?_ | refine wp_ret' ?_ | refine wp_skip' ?_ | refine wp_exit' ?_)
    refine wp_imp loop ?_
    rintro ex st ⟨rfl, rfl⟩
    simp only [if_true]
    repeat (first | apply wp_as | apply wp_ss | refine wr (by simp; with_reducible rfl) ?_ | refine wq (by simp; with_reducible rfl) ?_ | refine wt (by simpa) ?_ | refine wf (by simpa) ?_ | refine xt (by simpa) ?_ | refine xf (by simpa) ?_ | apply wp_bs | apply wp_b | refine wp_sr ?_ | refine wp_sx ?_ | refine wp_ret' ?_ | refine wp_skip' ?_ | refine wp_exit' ?_)
    simp [if_laws_FnCountTrees]

end Go.Idl

namespace Go.Idl

def insP (x : Nat × Nat) : List (Nat × Nat) → List (Nat × Nat)
  | [] => [x]
  | y :: r => if Nat.ble y.1 x.1 then x :: y :: r else y :: insP x r

/-- Pairs by laying off the first, again and again. -/
def hh : Nat → List (Nat × Nat) → List (Nat × Nat)
  | 0, _ => []
  | _ + 1, [] => []
  | m + 1, x :: r => (r.take x.1).map (fun y : Nat × Nat => (x.2, y.2)) ++ hh m ((((r.take x.1).map (fun y : Nat × Nat => (y.1 - 1, y.2)) ++ r.drop x.1 : List (Nat × Nat))).foldr insP [])

theorem getD_zero_all {left : List Int} {N : Nat} (hl : left.length = N) : left.all (fun x => decide (x = 0)) = true ↔ ∀ v, v < N → (0 : Int) = left.getD v 0 := by
  rw [List.all_eq_true]
  constructor
  · intro h v hv
    rw [List.getD_eq_getElem?_getD, List.getElem?_eq_getElem (by omega)]
    have := of_decide_eq_true (h _ (List.getElem_mem (show v < left.length by omega)))
    simp [this]
  · intro h x hx
    obtain ⟨v, hv, rfl⟩ := List.getElem_of_mem hx
    have := h v (by omega)
    rw [List.getD_eq_getElem?_getD, List.getElem?_eq_getElem hv] at this
    simpa using this.symm

theorem decAt_get {o : List Int} {i v : Nat} (hv : v < o.length) : (decAt o i).getD v 0 = o.getD v 0 - (if i = v then 1 else 0) := by
  rw [decAt, List.getD_eq_getElem?_getD, List.getElem?_set]
  by_cases h : i = v
  · subst h; simp [hv, List.getD_eq_getElem?_getD]
  · simp [h, List.getD_eq_getElem?_getD]

theorem inc_nonneg (v : Nat) (e : Int × Int) : 0 ≤ inc v e := by simp only [inc]; split <;> split <;> decide

theorem mem_subs {N : Nat} : ∀ (r : List (Int × Int)) (left : List Int) (ch g : List (Int × Int)), (∀ e ∈ r, 0 ≤ e.1 ∧ e.1 < e.2 ∧ e.2 < N) → left.length = N →
    (g ∈ subs r left ch ↔ ∃ s : List (Int × Int), s.Sublist r ∧ g = ch ++ s ∧ ∀ v, v < N → deg s v = left.getD v 0)
  | [], left, ch, g, _, hl => by
    rw [subs]
    constructor
    · intro h
      split at h
      · rename_i hz
        simp at h
        subst h
        exact ⟨[], List.Sublist.refl _, by simp, fun v hv => (getD_zero_all hl).1 hz v hv⟩
      · simp at h
    · rintro ⟨s, hs, rfl, hd⟩
      have : s = [] := by simpa using hs
      subst this
      rw [if_pos ((getD_zero_all hl).2 fun v hv => hd v hv)]
      simp
  | e :: r, left, ch, g, hr, hl => by
    have he := hr e (by simp)
    have hr' : ∀ x ∈ r, 0 ≤ x.1 ∧ x.1 < x.2 ∧ x.2 < N := fun x hx => hr x (by simp [hx])
    have hdl : (decAt (decAt left e.1.toNat) e.2.toNat).length = N := by simp [decAt, hl]
    have hget : ∀ v, v < N → (decAt (decAt left e.1.toNat) e.2.toNat).getD v 0 = left.getD v 0 - inc v e := fun v hv => by
      rw [decAt_get (by simp [decAt]; omega), decAt_get (by omega), inc]
      have c1 : (e.1.toNat = v) = (e.1 = (v : Int)) := by rw [eq_iff_iff]; omega
      have c2 : (e.2.toNat = v) = (e.2 = (v : Int)) := by rw [eq_iff_iff]; omega
      simp only [c1, c2]; omega
    rw [subs, List.mem_append]
    constructor
    · rintro (h | h)
      · split at h
        rotate_left
        · simp at h
        obtain ⟨s, hs, rfl, hd⟩ := (mem_subs r _ _ g hr' hdl).1 h
        refine ⟨e :: s, hs.cons_cons e, by simp, fun v hv => ?_⟩
        have h1 := hd v hv
        rw [hget v hv] at h1
        rw [deg, S_cons]
        have h2 : S s (inc v) = left.getD v 0 - inc v e := h1
        rw [h2]; omega
      · obtain ⟨s, hs, rfl, hd⟩ := (mem_subs r _ _ g hr' hl).1 h
        exact ⟨s, hs.cons e, rfl, hd⟩
    · rintro ⟨s, hs, rfl, hd⟩
      rcases List.sublist_cons_iff.1 hs with hs2 | ⟨s', rfl, hs2⟩
      · exact .inr ((mem_subs r _ _ _ hr' hl).2 ⟨s, hs2, rfl, hd⟩)
      · refine .inl ?_
        have hd' : ∀ v, v < N → inc v e + deg s' v = left.getD v 0 := fun v hv => by
          rw [← hd v hv, deg, deg, S_cons]
        have pos : ∀ x : Int, 0 ≤ x → x < N → (e.1 = x ∨ e.2 = x) → 0 < left.getD x.toNat 0 := fun x h0 h1 h2 => by
          have h3 := hd' x.toNat (by omega)
          have h4 : 0 ≤ deg s' x.toNat := S_nonneg fun y _ => inc_nonneg _ y
          have h5 : 1 ≤ inc x.toNat e := by
            simp only [inc, show ((x.toNat : Nat) : Int) = x by omega]
            rcases h2 with h2 | h2
            · rw [if_pos h2]; split <;> decide
            · rw [if_pos h2]; split <;> decide
          omega
        rw [if_pos ⟨pos e.1 (by omega) (by omega) (.inl rfl), pos e.2 (by omega) (by omega) (.inr rfl)⟩]
        refine (mem_subs r _ _ _ hr' hdl).2 ⟨s', hs2, by simp, fun v hv => ?_⟩
        rw [hget v hv, ← hd' v hv]; omega

theorem ite_iff {α : Type} {p q : Prop} [Decidable p] [Decidable q] (h : p ↔ q) (a b : α) : (if p then a else b) = if q then a else b := by
  by_cases hp : p
  · rw [if_pos hp, if_pos (h.1 hp)]
  · rw [if_neg hp, if_neg fun hq => hp (h.2 hq)]

/- Degrees of a graph of a relation. -/

end Go.Idl

namespace Go.Idl

theorem deg_degs {n : Nat} {s : List (Int × Int)} (hs : s.Sublist (prs n)) {d : List Int} (hl : d.length = n) : (∀ v, v < n → deg s v = d.getD v 0) ↔ degs n s = d := by
  rw [degs_eq (prs_in hs)]
  constructor
  · intro h
    refine List.ext_getElem (by simp [hl]) fun v h1 h2 => ?_
    rw [List.getElem_map, List.getElem_range, h v (by omega), List.getD_eq_getElem?_getD, List.getElem?_eq_getElem h2]; rfl
  · intro h v hv
    rw [← h, List.getD_eq_getElem?_getD, List.getElem?_map, List.getElem?_range hv]; rfl

/-- The search finds the valid graphs with the degrees. -/
theorem mem_reals {d : List Int} (h7 : d.length ≤ 7) (g : List (Int × Int)) : g ∈ reals d ↔ vGraph d.length g = true ∧ degs d.length g = d := by
  rw [reals, mem_subs (N := d.length) _ _ _ _ (fun e he => mem_prs.1 he) rfl]
  constructor
  · rintro ⟨s, hs, rfl, hd⟩
    exact ⟨vG_iff.2 ⟨(prs_pw _).sublist hs, fun e he => hs.mem he, h7⟩, (deg_degs hs rfl).1 hd⟩
  · rintro ⟨h1, h2⟩
    exact ⟨g, vG_sub h1, rfl, (deg_degs (vG_sub h1) rfl).2 h2⟩

end Go.Idl

namespace Go.Idl

/-- Laying off by numbers alone, of falling lists. -/
def hv : Nat → List Int → Bool
  | 0, _ => true
  | _ + 1, [] => true
  | m + 1, x :: r => decide (x ≤ r.length) && (r.take x.toNat).all (fun y => !decide (y = 0)) && hv m (fall ((r.take x.toNat).map (fun y => y - 1) ++ r.drop x.toNat))

end Go.Idl

namespace Go.Idl

theorem len_sub {α : Type} [DecidableEq α] : ∀ {l k : List α}, l.Nodup → (∀ x ∈ l, x ∈ k) → l.length ≤ k.length
  | [], _, _, _ => by simp
  | a :: l, k, hn, hs => by
    have hn' := List.nodup_cons.1 hn
    have h1 := len_sub (l := l) (k := k.erase a) hn'.2 (fun x hx => (List.mem_erase_of_ne (fun h => hn'.1 (by rw [← h]; exact hx))).2 (hs x (by simp [hx])))
    have h2 := List.length_erase_of_mem (hs a (by simp))
    have h3 : 0 < k.length := List.length_pos_of_mem (hs a (by simp))
    simp only [List.length_cons]; omega

end Go.Idl

namespace Go.Idl

theorem S_zero_iff {α : Type} : ∀ {l : List α} {f : α → Int}, (∀ a ∈ l, 0 ≤ f a) → (S l f = 0 ↔ ∀ a ∈ l, f a = 0)
  | [], f, _ => by simp [S]
  | a :: l, f, h => by
    have h1 := h a (by simp)
    have h2 : 0 ≤ S l f := S_nonneg fun b hb => h b (by simp [hb])
    have h3 := S_zero_iff (l := l) (f := f) fun b hb => h b (by simp [hb])
    rw [S_cons, List.forall_mem_cons, ← h3]
    omega

end Go.Idl

namespace Go.Idl

/-- No edge leaves a set of vertices. -/
def Cl (es : List (Int × Int)) (p : Nat → Bool) : Prop := ∀ e ∈ es, p e.1.toNat = p e.2.toNat

def Con (n : Nat) (es : List (Int × Int)) : Prop := ∀ p, Cl es p → ∀ u v, u < n → v < n → p u = p v

theorem countP_lt {α : Type} {p q : α → Bool} : ∀ {l : List α}, (∀ a ∈ l, p a = true → q a = true) → (∃ a ∈ l, p a = false ∧ q a = true) → l.countP p < l.countP q
  | [], _, ⟨a, h, _⟩ => by cases h
  | b :: l, hi, ⟨a, ha, h1, h2⟩ => by
    rw [List.countP_cons, List.countP_cons]
    have hle : l.countP p ≤ l.countP q := List.countP_mono_left fun x hx => hi x (by simp [hx])
    by_cases hab : a = b
    · subst hab
      rw [h1, h2]; simp; omega
    · have ha2 : a ∈ l := by
        rcases List.mem_cons.1 ha with h | h
        · exact absurd h hab
        · exact h
      have := countP_lt (l := l) (fun x hx => hi x (by simp [hx])) ⟨a, ha2, h1, h2⟩
      have hb := hi b (by simp)
      cases hp : p b with
      | false => cases q b <;> simp <;> omega
      | true => rw [hb hp]; simp; omega

theorem countP_or_le {α : Type} (p q : α → Bool) : ∀ l : List α, (l.countP fun a => p a || q a) ≤ l.countP p + l.countP q
  | [] => by simp
  | a :: l => by
    have := countP_or_le p q l
    rw [List.countP_cons, List.countP_cons, List.countP_cons]
    cases p a <;> cases q a <;> simp <;> omega

theorem S_countP' {α : Type} (p : α → Bool) : ∀ l : List α, S l (fun a => if p a = true then 1 else 0) = (l.countP p : Int)
  | [] => rfl
  | a :: l => by rw [S_cons, S_countP' p l, List.countP_cons]; split <;> simp_all <;> omega

theorem countP_eq_le (n w : Nat) : (List.range n).countP (fun v => decide (v = w)) ≤ 1 := by
  have h1 := S_countP' (fun v => decide (v = w)) (List.range n)
  have h2 := S_one (List.nodup_range (n := n)) w
  have h3 : S (List.range n) (fun a => if decide (a = w) = true then (1 : Int) else 0) = S (List.range n) (fun a => if w = a then 1 else 0) := S_congr fun a _ => ite_iff (by simp [eq_comm]) _ _
  rw [h3, h2] at h1
  split at h1 <;> omega

theorem grow {n : Nat} {es : List (Int × Int)} (hC : Con n es) (hes : ∀ e ∈ es, e.1.toNat < n ∧ e.2.toNat < n) (Z : Nat → Nat → Bool) (h0 : ∃ v, v < n ∧ Z 0 v = true) (hm : ∀ k v, Z k v = true → Z (k + 1) v = true)
    (he : ∀ k, ∀ e ∈ es, (Z k e.1.toNat = true ∨ Z k e.2.toNat = true) → Z (k + 1) e.1.toNat = true ∧ Z (k + 1) e.2.toNat = true) : ∀ k, min (k + 1) n ≤ (List.range n).countP (Z k) ∧ ∃ v, v < n ∧ Z k v = true
  | 0 => by
    obtain ⟨v, hv, hz⟩ := h0
    have : 0 < (List.range n).countP (Z 0) := List.countP_pos_iff.2 ⟨v, List.mem_range.2 hv, hz⟩
    exact ⟨by omega, v, hv, hz⟩
  | k + 1 => by
    obtain ⟨ih, v, hv, hz⟩ := grow hC hes Z h0 hm he k
    refine ⟨?_, v, hv, hm k v hz⟩
    have hle : (List.range n).countP (Z k) ≤ (List.range n).countP (Z (k + 1)) := List.countP_mono_left fun x _ => hm k x
    by_cases hall : ∀ u, u < n → Z k u = true
    · have : (List.range n).countP (Z k) = (List.range n).length := List.countP_eq_length.2 fun a ha => hall a (List.mem_range.1 ha)
      simp at this
      omega
    · simp only [Classical.not_forall] at hall
      obtain ⟨u, hu, hzu⟩ := hall
      have hncl : ¬ Cl es (Z k) := fun hc => hzu (by rw [hC _ hc u v hu hv]; exact hz)
      simp only [Cl, Classical.not_forall] at hncl
      obtain ⟨e, hee, hne⟩ := hncl
      have hlt : (List.range n).countP (Z k) < (List.range n).countP (Z (k + 1)) := by
        have hb := hes e hee
        refine countP_lt (fun x _ => hm k x) ?_
        cases h1 : Z k e.1.toNat with
        | true =>
          have h2 : Z k e.2.toNat = false := by
            cases h2 : Z k e.2.toNat with
            | false => rfl
            | true => rw [h1, h2] at hne; exact absurd rfl hne
          exact ⟨_, List.mem_range.2 hb.2, h2, (he k e hee (.inl h1)).2⟩
        | false =>
          have h2 : Z k e.2.toNat = true := by
            cases h2 : Z k e.2.toNat with
            | true => rfl
            | false => rw [h1, h2] at hne; exact absurd rfl hne
          exact ⟨_, List.mem_range.2 hb.1, h1, (he k e hee (.inr h2)).1⟩
      omega

theorem grow_all {n : Nat} {es : List (Int × Int)} (hC : Con n es) (hes : ∀ e ∈ es, e.1.toNat < n ∧ e.2.toNat < n) (Z : Nat → Nat → Bool) (h0 : ∃ v, v < n ∧ Z 0 v = true) (hm : ∀ k v, Z k v = true → Z (k + 1) v = true)
    (he : ∀ k, ∀ e ∈ es, (Z k e.1.toNat = true ∨ Z k e.2.toNat = true) → Z (k + 1) e.1.toNat = true ∧ Z (k + 1) e.2.toNat = true) : ∀ v, v < n → Z n v = true := fun v hv => by
  have h1 := (grow hC hes Z h0 hm he n).1
  have h2 : (List.range n).countP (Z n) ≤ (List.range n).length := List.countP_le_length
  simp at h2
  have h3 : (List.range n).countP (Z n) = (List.range n).length := by simp; omega
  exact List.countP_eq_length.1 h3 v (List.mem_range.2 hv)

/-! the program's way -/

theorem rnds_succ (es : List (Int × Int)) : ∀ (k : Nat) (o : List Int), rnds es (k + 1) o = es.foldl relax (rnds es k o)
  | 0, _ => rfl
  | k + 1, o => by rw [rnds, rnds_succ es k, rnds]

theorem relax_get {o : List Int} {e : Int × Int} (h1 : e.1.toNat < o.length) (h2 : e.2.toNat < o.length) (v : Nat) :
    (relax o e).getD v 0 = if v = e.1.toNat ∨ v = e.2.toNat then min (o.getD e.1.toNat 0) (o.getD e.2.toNat 0) else o.getD v 0 := by
  rw [relax, List.getD_eq_getElem?_getD, List.getElem?_set, List.getElem?_set]
  by_cases k2 : v = e.2.toNat
  · subst k2
    simp [h2]
  · by_cases k1 : v = e.1.toNat
    · subst k1
      simp [h1, Ne.symm k2]
    · simp [k1, k2, Ne.symm k1, Ne.symm k2]

/-- What every round keeps. -/
def RInv (n : Nat) (p : Nat → Bool) (o : List Int) : Prop := o.length = n ∧ ∀ v, v < n → 0 ≤ o.getD v 0 ∧ o.getD v 0 ≤ v ∧ p (o.getD v 0).toNat = p v

theorem relax_inv {n : Nat} {p : Nat → Bool} {o : List Int} {e : Int × Int} (h1 : e.1.toNat < n) (h2 : e.2.toNat < n) (hp : p e.1.toNat = p e.2.toNat) (h : RInv n p o) : RInv n p (relax o e) := by
  refine ⟨by rw [relax_len]; exact h.1, fun v hv => ?_⟩
  rw [relax_get (by rw [h.1]; exact h1) (by rw [h.1]; exact h2)]
  have a := h.2 _ h1
  have b := h.2 _ h2
  split
  · rename_i hq
    have hpm : p (min (o.getD e.1.toNat 0) (o.getD e.2.toNat 0)).toNat = p v := by
      have hpv : p v = p e.1.toNat := by
        rcases hq with rfl | rfl
        · rfl
        · exact hp.symm
      rcases Int.le_total (o.getD e.1.toNat 0) (o.getD e.2.toNat 0) with hl | hl
      · rw [Int.min_eq_left hl, a.2.2, hpv]
      · rw [Int.min_eq_right hl, b.2.2, hpv, hp]
    refine ⟨by omega, ?_, hpm⟩
    rcases hq with rfl | rfl <;> omega
  · exact h.2 v hv

theorem fold_inv {n : Nat} {p : Nat → Bool} : ∀ (es : List (Int × Int)) {o : List Int}, (∀ e ∈ es, e.1.toNat < n ∧ e.2.toNat < n) → Cl es p → RInv n p o → RInv n p (es.foldl relax o)
  | [], _, _, _, h => h
  | e :: es, _, he, hc, h => fold_inv es (fun x hx => he x (by simp [hx])) (fun x hx => hc x (by simp [hx])) (relax_inv (he e (by simp)).1 (he e (by simp)).2 (hc e (by simp)) h)

theorem rnds_inv {n : Nat} {p : Nat → Bool} {es : List (Int × Int)} (he : ∀ e ∈ es, e.1.toNat < n ∧ e.2.toNat < n) (hc : Cl es p) : ∀ (k : Nat) {o : List Int}, RInv n p o → RInv n p (rnds es k o)
  | 0, _, h => h
  | k + 1, _, h => rnds_inv he hc k (fold_inv es he hc h)

theorem base_inv (n : Nat) (p : Nat → Bool) : RInv n p (idxB n (-1)) := by
  have hg : ∀ v, v < n → (idxB n (-1)).getD v 0 = (v : Int) := fun v hv => by
    rw [idxB_all, List.getD_eq_getElem?_getD, List.getElem?_map, List.getElem?_range hv]; rfl
  refine ⟨by rw [idxB_all]; simp, fun v hv => ?_⟩
  rw [hg v hv]
  exact ⟨by omega, by omega, by rw [Int.toNat_natCast]⟩

theorem fold_zero {n : Nat} : ∀ (es : List (Int × Int)) {o : List Int} {v : Nat}, (∀ e ∈ es, e.1.toNat < n ∧ e.2.toNat < n) → RInv n (fun _ => true) o → v < n → o.getD v 0 = 0 → (es.foldl relax o).getD v 0 = 0
  | [], _, _, _, _, _, h => h
  | e :: es, o, v, he, hi, hv, h => by
    have hb := he e (by simp)
    have hi2 := relax_inv hb.1 hb.2 rfl hi
    refine fold_zero es (fun x hx => he x (by simp [hx])) hi2 hv ?_
    rw [relax_get (by rw [hi.1]; exact hb.1) (by rw [hi.1]; exact hb.2)]
    have a := hi.2 _ hb.1
    have b := hi.2 _ hb.2
    split
    · rename_i hq
      rcases hq with rfl | rfl <;> omega
    · exact h

theorem fold_edge {n : Nat} : ∀ (es : List (Int × Int)) {o : List Int}, (∀ e ∈ es, e.1.toNat < n ∧ e.2.toNat < n) → RInv n (fun _ => true) o → ∀ e ∈ es, (o.getD e.1.toNat 0 = 0 ∨ o.getD e.2.toNat 0 = 0) →
    (es.foldl relax o).getD e.1.toNat 0 = 0 ∧ (es.foldl relax o).getD e.2.toNat 0 = 0
  | [], _, _, _, _, h, _ => by cases h
  | f :: es, o, he, hi, e, hm, h => by
    have hb := he f (by simp)
    have hbe := he e hm
    have he' : ∀ e ∈ es, e.1.toNat < n ∧ e.2.toNat < n := fun x hx => he x (by simp [hx])
    have hi2 := relax_inv hb.1 hb.2 rfl hi
    have a := hi.2 _ hb.1
    have b := hi.2 _ hb.2
    have rg := fun v => relax_get (o := o) (e := f) (by rw [hi.1]; exact hb.1) (by rw [hi.1]; exact hb.2) v
    rcases List.mem_cons.1 hm with rfl | hm2
    · refine ⟨fold_zero es he' hi2 hb.1 ?_, fold_zero es he' hi2 hb.2 ?_⟩
      · rw [rg, if_pos (.inl rfl)]; omega
      · rw [rg, if_pos (.inr rfl)]; omega
    · refine fold_edge es he' hi2 e hm2 ?_
      rcases h with h | h
      · left
        rw [rg]
        split
        · rename_i hq
          rcases hq with hq | hq <;> rw [hq] at h <;> omega
        · exact h
      · right
        rw [rg]
        split
        · rename_i hq
          rcases hq with hq | hq <;> rw [hq] at h <;> omega
        · exact h

theorem con_zero {n : Nat} (hn1 : 1 ≤ n) {es : List (Int × Int)} (hes : ∀ e ∈ es, e.1.toNat < n ∧ e.2.toNat < n) (hC : Con n es) : ∀ v, v < n → (rnds es n (idxB n (-1))).getD v 0 = 0 := by
  have hi : ∀ k, RInv n (fun _ => true) (rnds es k (idxB n (-1))) := fun k => rnds_inv hes (fun _ _ => rfl) k (base_inv n _)
  have hb := base_inv n (fun _ => true)
  have hA : ∀ v, v < n → (fun (k v : Nat) => decide (v < n) && decide ((rnds es k (idxB n (-1))).getD v 0 = 0)) n v = true := by
    refine grow_all hC hes (fun k v => decide (v < n) && decide ((rnds es k (idxB n (-1))).getD v 0 = 0)) ⟨0, by omega, ?_⟩ (fun k v h => ?_) (fun k e he h => ?_)
    · have hz := hb.2 0 (by omega)
      have hz2 : (idxB n (-1)).getD 0 0 = 0 := by
        have h1 := hz.1
        have h2 := hz.2.1
        omega
      show (decide (0 < n) && decide ((idxB n (-1)).getD 0 0 = 0)) = true
      rw [decide_eq_true (show 0 < n by omega), decide_eq_true hz2]; rfl
    · simp only [Bool.and_eq_true, decide_eq_true_eq] at h ⊢
      rw [rnds_succ]
      exact ⟨h.1, fold_zero es hes (hi k) h.1 h.2⟩
    · have hbe := hes e he
      simp only [Bool.and_eq_true, decide_eq_true_eq] at h ⊢
      rw [rnds_succ]
      have := fold_edge es hes (hi k) e he (h.elim (fun h => .inl h.2) (fun h => .inr h.2))
      exact ⟨⟨hbe.1, this.1⟩, ⟨hbe.2, this.2⟩⟩
  intro v hv
  have := hA v hv
  simp only [Bool.and_eq_true, decide_eq_true_eq] at this
  exact this.2

theorem compI_len (n : Nat) (es : List (Int × Int)) : (compI n es).length = ((rgF n 0).filter (isR (rnds es n (idxB n (-1))))).length := by rw [compI, partsF, List.length_map]

theorem one_zero {n : Nat} (hn1 : 1 ≤ n) (p : Int → Bool) (h0 : p 0 = true) (h : ∀ v : Nat, v < n → 1 ≤ v → p v = false) : ((rgF n 0).filter p).length = 1 := by
  rw [rgF_cons (show 0 < n by omega), show ((0 : Nat) : Int) = 0 from rfl, List.filter_cons_of_pos h0, List.filter_eq_nil_iff.2 fun x hx => ?_]
  · rfl
  · have hb := mem_rgF.1 hx
    obtain ⟨k, rfl⟩ := Int.eq_ofNat_of_zero_le (show 0 ≤ x by omega)
    rw [h k (by omega) (by omega)]; simp

theorem two_more {n : Nat} (p : Int → Bool) {a b : Nat} (ha : a < n) (hb : b < n) (hab : a ≠ b) (pa : p a = true) (pb : p b = true) : 2 ≤ ((rgF n 0).filter p).length := by
  have : [(a : Int), (b : Int)].length ≤ ((rgF n 0).filter p).length := len_sub (by simp; omega) fun x hx => by
    simp only [List.mem_cons, List.not_mem_nil, or_false] at hx
    rcases hx with rfl | rfl
    · exact List.mem_filter.2 ⟨mem_rgF.2 (by omega), pa⟩
    · exact List.mem_filter.2 ⟨mem_rgF.2 (by omega), pb⟩
  simpa using this

/-- The least vertex of a class. -/
theorem least_of {n : Nat} {p : Nat → Bool} {b : Bool} {v : Nat} (hv : v < n) (h : p v = b) : ∃ r, r < n ∧ p r = b ∧ ∀ u, u < r → p u ≠ b := by
  induction v using Nat.strongRecOn with
  | _ v ih =>
    by_cases hq : ∃ u, u < v ∧ p u = b
    · obtain ⟨u, hu, hpu⟩ := hq
      exact ih u hu (by omega) hpu
    · exact ⟨v, hv, h, fun u hu hpu => hq ⟨u, hu, hpu⟩⟩

theorem not_con {n : Nat} {es : List (Int × Int)} (h : ¬ Con n es) : ∃ p a b, Cl es p ∧ a < n ∧ b < n ∧ p a = true ∧ p b = false ∧ (∀ u, u < a → p u ≠ true) ∧ ∀ u, u < b → p u ≠ false := by
  simp only [Con, Classical.not_forall] at h
  obtain ⟨p, hc, u, v, hu, hv, hne⟩ := h
  have ht : ∃ x, x < n ∧ p x = true := by
    cases h1 : p u with
    | true => exact ⟨u, hu, h1⟩
    | false =>
      cases h2 : p v with
      | true => exact ⟨v, hv, h2⟩
      | false => rw [h1, h2] at hne; exact absurd rfl hne
  have hf : ∃ x, x < n ∧ p x = false := by
    cases h1 : p u with
    | false => exact ⟨u, hu, h1⟩
    | true =>
      cases h2 : p v with
      | false => exact ⟨v, hv, h2⟩
      | true => rw [h1, h2] at hne; exact absurd rfl hne
  obtain ⟨x, hx, hpx⟩ := ht
  obtain ⟨y, hy, hpy⟩ := hf
  obtain ⟨a, a1, a2, a3⟩ := least_of hx hpx
  obtain ⟨b, b1, b2, b3⟩ := least_of hy hpy
  exact ⟨p, a, b, hc, a1, b1, a2, b2, a3, b3⟩

theorem compI_one {n : Nat} (hn1 : 1 ≤ n) {es : List (Int × Int)} (hes : ∀ e ∈ es, e.1.toNat < n ∧ e.2.toNat < n) : (compI n es).length = 1 ↔ Con n es := by
  rw [compI_len]
  constructor
  · intro h1
    refine Classical.byContradiction fun hC => ?_
    obtain ⟨p, a, b, hc, ha, hb, pa, pb, la, lb⟩ := not_con hC
    have hi := rnds_inv hes hc n (base_inv n p)
    have key : ∀ (r : Nat) (x : Bool), r < n → p r = x → (∀ u, u < r → p u ≠ x) → isR (rnds es n (idxB n (-1))) r = true := fun r x hr hpr hl => by
      rw [isR, inP, Int.toNat_natCast, decide_eq_true_eq]
      have := hi.2 r hr
      by_cases hq : (rnds es n (idxB n (-1))).getD r 0 = r
      · exact hq
      · exact absurd (this.2.2.trans hpr) (hl _ (by omega))
    have := two_more (isR (rnds es n (idxB n (-1)))) ha hb (fun h => by rw [h, pb] at pa; cases pa) (key a true ha pa la) (key b false hb pb lb)
    omega
  · intro hC
    have hz := con_zero hn1 hes hC
    refine one_zero hn1 _ ?_ fun v hv h1 => ?_
    · rw [isR, inP, decide_eq_true_eq]; exact hz 0 (by omega)
    · rw [isR, inP, Int.toNat_natCast, hz v hv, decide_eq_false_iff_not]; omega

/-! the reference's way -/

theorem con_edges {n : Nat} {es : List (Int × Int)} (hes : ∀ e ∈ es, e.1.toNat < n ∧ e.2.toNat < n) (hC : Con n es) : ∀ k, k + 1 ≤ n → ∃ Z : Nat → Bool, (∃ v, v < n ∧ Z v = true) ∧ (List.range n).countP Z ≤ k + 1 ∧ k ≤ es.countP fun e => Z e.1.toNat && Z e.2.toNat
  | 0, h => ⟨fun v => decide (v = 0), ⟨0, by omega, rfl⟩, countP_eq_le n 0, by omega⟩
  | k + 1, h => by
    obtain ⟨Z, ⟨v, hv, hz⟩, hc, hk⟩ := con_edges hes hC k (by omega)
    have hex : ∃ u, u < n ∧ Z u = false := by
      refine Classical.byContradiction fun hno => ?_
      have : (List.range n).countP Z = (List.range n).length := List.countP_eq_length.2 fun a ha => by
        cases hq : Z a with
        | true => rfl
        | false => exact absurd ⟨a, List.mem_range.1 ha, hq⟩ hno
      simp at this
      omega
    obtain ⟨u, hu, hzu⟩ := hex
    have hncl : ¬ Cl es Z := fun hcl => by have := hC _ hcl u v hu hv; rw [hz, hzu] at this; cases this
    simp only [Cl, Classical.not_forall] at hncl
    obtain ⟨e, hee, hne⟩ := hncl
    have hb := hes e hee
    have step : ∀ w, w < n → Z w = false → (∀ x, (x = e.1.toNat ∨ x = e.2.toNat) → (Z x || decide (x = w)) = true) → (Z e.1.toNat && Z e.2.toNat) = false → ∃ Z : Nat → Bool, (∃ v, v < n ∧ Z v = true) ∧ (List.range n).countP Z ≤ k + 1 + 1 ∧ k + 1 ≤ es.countP fun e => Z e.1.toNat && Z e.2.toNat := fun w hw hzw hx hin => by
      refine ⟨fun x => Z x || decide (x = w), ⟨v, hv, by simp [hz]⟩, ?_, ?_⟩
      · have h1 := countP_or_le Z (fun x => decide (x = w)) (List.range n)
        have h2 := countP_eq_le n w
        omega
      · have := countP_lt (p := fun e : Int × Int => Z e.1.toNat && Z e.2.toNat) (q := fun e : Int × Int => (Z e.1.toNat || decide (e.1.toNat = w)) && (Z e.2.toNat || decide (e.2.toNat = w))) (l := es) (fun x _ hx => by
          simp only [Bool.and_eq_true] at hx ⊢
          simp [hx.1, hx.2]) ⟨e, hee, hin, by rw [hx _ (.inl rfl), hx _ (.inr rfl)]; rfl⟩
        show k + 1 ≤ es.countP fun e : Int × Int => (Z e.1.toNat || decide (e.1.toNat = w)) && (Z e.2.toNat || decide (e.2.toNat = w))
        omega
    cases h1 : Z e.1.toNat with
    | true =>
      have h2 : Z e.2.toNat = false := by
        cases h2 : Z e.2.toNat with
        | false => rfl
        | true => rw [h1, h2] at hne; exact absurd rfl hne
      exact step e.2.toNat hb.2 h2 (fun x hx => by rcases hx with rfl | rfl <;> simp [h1]) (by simp [h2])
    | false =>
      have h2 : Z e.2.toNat = true := by
        cases h2 : Z e.2.toNat with
        | true => rfl
        | false => rw [h1, h2] at hne; exact absurd rfl hne
      exact step e.1.toNat hb.1 h1 (fun x hx => by rcases hx with rfl | rfl <;> simp [h2]) (by simp [h1])

theorem con_conn {n : Nat} (hn1 : 1 ≤ n) {es : List (Int × Int)} (h : vGraph n es = true) (hC : Con n es) : conn (degs n es) = true := by
  have hin := (vG_iff.1 h).2.1
  have hes : ∀ e ∈ es, e.1.toNat < n ∧ e.2.toNat < n := fun e he => by have := mem_prs.1 (hin e he); omega
  have hdl : (degs n es).length = n := by rw [degs, dfold_len]; simp
  have hE : EdgesIn n es := fun e he => by have := mem_prs.1 (hin e he); omega
  obtain ⟨Z, -, -, hk⟩ := con_edges hes hC (n - 1) (by omega)
  have hle : (es.countP fun e => Z e.1.toNat && Z e.2.toNat) ≤ es.length := List.countP_le_length
  rw [conn, degs_graphic h, degs_sum hin, hdl]
  simp only [Bool.true_and, Bool.and_eq_true, decide_eq_true_eq, Bool.or_eq_true]
  refine ⟨by omega, ?_, by omega⟩
  by_cases h1 : n = 1
  · exact .inl h1
  · refine .inr ?_
    rw [posAll, degs_eq hE, List.all_eq_true]
    intro x hx
    obtain ⟨v, hv, rfl⟩ := List.mem_map.1 hx
    have hv := List.mem_range.1 hv
    have hnn : ∀ e ∈ es, 0 ≤ inc v e := fun e _ => inc_nonneg v e
    have h0 : 0 ≤ deg es v := S_nonneg hnn
    by_cases hz : deg es v = 0
    · exfalso
      have hz2 := (S_zero_iff hnn).1 hz
      have hcl : Cl es (fun u => decide (u = v)) := fun e he => by
        have h1 := hz2 e he
        have hb := mem_prs.1 (hin e he)
        simp only [inc] at h1
        by_cases k1 : e.1 = v
        · rw [if_pos k1] at h1; split at h1 <;> omega
        · by_cases k2 : e.2 = v
          · rw [if_pos k2, if_neg k1] at h1; omega
          · show decide (e.1.toNat = v) = decide (e.2.toNat = v)
            rw [decide_eq_false (by omega), decide_eq_false (by omega)]
      obtain ⟨w, hw, hwv⟩ : ∃ w, w < n ∧ w ≠ v := by
        by_cases hv0 : v = 0
        · exact ⟨1, by omega, by omega⟩
        · exact ⟨0, by omega, by omega⟩
      have := hC _ hcl v w hv hw
      simp only [decide_true] at this
      exact hwv (of_decide_eq_true this.symm)
    · simp only [decide_eq_true_eq]; omega

end Go.Idl

namespace Go.Idl

def prodF : List Int → Nat
  | [] => 1
  | x :: r => facN (x - 1).toNat * prodF r

theorem prodF_perm {xs ys : List Int} (h : xs.Perm ys) : prodF xs = prodF ys := by
  induction h with
  | nil => rfl
  | cons x _ ih => rw [prodF, prodF, ih]
  | swap x y r => rw [prodF, prodF, prodF, prodF, Nat.mul_left_comm]
  | trans _ _ h1 h2 => rw [h1, h2]

theorem divs_prod : ∀ (d : List Int) (o : Nat), divs d o = o / prodF d
  | [], o => by simp [divs, prodF]
  | x :: r, o => by rw [divs, divs_prod r, prodF, Nat.div_div_eq_div_mul]

theorem prodF_pos : ∀ d : List Int, 0 < prodF d
  | [] => by decide
  | x :: r => Nat.mul_pos (facN_pos _) (prodF_pos r)

def chkT (s : List Int) : Bool := !(decide (s.sum = 2 * ((s.length : Int) - 1)) && posAll s) || (noneNeg (slS s) && decide (prodF s ≤ facN ((s.length : Int) - 2).toNat))

set_option maxRecDepth 100000 in
theorem chkT_all : (List.range 8).all (fun n => allD chkT n (n - 1) []) = true := by kernel_rfl

theorem posAll_perm {xs ys : List Int} (h : xs.Perm ys) : posAll xs = posAll ys := by
  rw [Bool.eq_iff_iff, posAll, posAll, List.all_eq_true, List.all_eq_true]
  exact ⟨fun h1 x hx => h1 x (h.mem_iff.2 hx), fun h1 x hx => h1 x (h.mem_iff.1 hx)⟩

theorem treeLaw (d : List Int) (h : valid d = true) : TreeLaw d = true := by
  have h1 := (valid_few h).1
  have h2 := valid_mem h
  have hc := List.all_eq_true.1 chkT_all d.length (List.mem_range.2 (by omega))
  have h3 := allD_ok chkT d.length (d.length - 1) [] (fall d) hc (fall_len d) (fall_desc d) (fun x hx => by
    have := h2 x (fall_mem.1 hx)
    omega)
  simp only [List.reverse_nil, List.nil_append, chkT, fall_sum, fall_len, posAll_perm (fall_perm d), prodF_perm (fall_perm d), ← slacks_S] at h3
  simp only [TreeLaw, Bool.and_eq_true, beq_iff_eq, Bool.or_eq_true, Bool.not_eq_true', decide_eq_true_eq]
  simp only [Bool.or_eq_true, Bool.not_eq_true', Bool.and_eq_false_iff, Bool.and_eq_true, decide_eq_true_eq, decide_eq_false_iff_not] at h3
  have hgr : ∀ hs : d.sum = 2 * ((d.length : Int) - 1), noneNeg (slacks d) = true → graphic d = true := fun hs hn => by
    rw [graphic, h]
    have : d.sum % 2 = 0 := by omega
    simp only [this, decide_true, Bool.and_true, Bool.true_and]
    exact hn
  by_cases hd0 : d.length = 0
  · have : d = [] := List.length_eq_zero_iff.1 hd0
    subst this
    decide
  by_cases hd1 : d.length = 1
  · match d, hd1 with
    | [x], _ =>
      have := h2 x (by simp)
      have : x = 0 := by simp at this; omega
      subst this
      decide +kernel
  by_cases hs : d.sum = 2 * ((d.length : Int) - 1)
  rotate_left
  · have ht : treeD d = false := by
      simp only [treeD, Bool.and_eq_false_iff, decide_eq_false_iff_not]; exact .inr (by omega)
    rw [ht]
    refine ⟨?_, .inl rfl⟩
    simp [treeS, hd1, hs]
  cases hp : posAll d with
  | false =>
    have ht : treeD d = false := by simp [treeD, conn, hp, hd1]
    rw [ht]
    refine ⟨?_, .inl rfl⟩
    simp [treeS, hd1, hp]
  | true =>
    rcases h3 with h3 | ⟨h3, h4⟩
    · rcases h3 with h3 | h3
      · exact absurd hs h3
      · rw [hp] at h3; cases h3
    · have ht : treeD d = true := by
        simp only [treeD, conn, hgr hs h3, hp, Bool.or_true, Bool.true_and, Bool.and_eq_true, decide_eq_true_eq]
        exact ⟨⟨by omega, by omega⟩, by omega⟩
      rw [ht]
      refine ⟨?_, .inr ?_⟩
      · simp only [treeS, h, hp, hs, Bool.true_and, decide_true, Bool.and_true]
        symm
        simp only [Bool.or_eq_true, decide_eq_true_eq]
        exact .inr (by omega)
      · rw [cntT, divs_prod]
        exact Nat.div_pos h4 (prodF_pos d)

end Go.Idl

namespace Go.Idl

/-- All lists. -/
def allE (p : List Int → Bool) (t : Nat) : Nat → List Int → Bool
  | 0, acc => p acc.reverse
  | m + 1, acc => (List.range (t + 1)).all fun x => allE p t m ((x : Int) :: acc)

theorem allE_ok (p : List Int → Bool) (t : Nat) : ∀ (m : Nat) (acc l : List Int), allE p t m acc = true → l.length = m → (∀ x ∈ l, 0 ≤ x ∧ x ≤ t) → p (acc.reverse ++ l) = true
  | 0, acc, l, h, hl, _ => by
    have : l = [] := List.length_eq_zero_iff.1 hl
    subst this
    rw [List.append_nil]; exact h
  | m + 1, acc, [], h, hl, _ => by cases hl
  | m + 1, acc, x :: l, h, hl, hb => by
    have hx := hb x (by simp)
    obtain ⟨k, rfl⟩ := Int.eq_ofNat_of_zero_le hx.1
    have h2 := List.all_eq_true.1 h k (List.mem_range.2 (by omega))
    have := allE_ok p t m ((k : Int) :: acc) l h2 (by simpa using hl) (fun y hy => hb y (by simp [hy]))
    rw [List.reverse_cons, List.append_assoc] at this
    exact this

def chkTr (d : List Int) : Bool := !(decide (d.sum = 2 * (d.length : Int) - 2)) || !(posAll d) || decide (cntT d = trN d)

set_option maxRecDepth 100000 in
theorem chkTr_all : (List.range 6).all (fun n => allE chkTr (n - 1) n []) = true := by kernel_rfl

theorem trees_all {d : List Int} (hv : valid d = true) (h5 : d.length ≤ 5) : (if treeD d = true then (cntT d : Int) else 0) = (trN d : Int) := by
  have hm := valid_mem hv
  by_cases h0 : d.length = 0
  · have : d = [] := List.length_eq_zero_iff.1 h0
    subst this
    rfl
  by_cases h1 : d.length = 1
  · obtain ⟨x, rfl⟩ : ∃ x, d = [x] := by
      cases d with
      | nil => simp at h1
      | cons x r => exact ⟨x, by have : r = [] := by simpa using h1
                                 rw [this]⟩
    have hm := hm x (by simp)
    have hx : x = 0 := by simp at hm; omega
    subst hx
    rfl
  cases ht : treeD d with
  | true =>
    rw [if_pos rfl]
    simp only [treeD, conn, Bool.and_eq_true, decide_eq_true_eq, Bool.or_eq_true] at ht
    have hc := List.all_eq_true.1 chkTr_all d.length (List.mem_range.2 (by omega))
    have h3 := allE_ok chkTr (d.length - 1) d.length [] d hc rfl (fun x hx => by have := hm x hx; omega)
    simp only [List.reverse_nil, List.nil_append, chkTr, Bool.or_eq_true, Bool.not_eq_true', decide_eq_true_eq, decide_eq_false_iff_not] at h3
    have hp := ht.1.2.2.1.resolve_left h1
    rcases h3 with (h3 | h3) | h3
    · exact absurd ht.2 (of_decide_eq_false h3)
    · rw [hp] at h3; cases h3
    · rw [of_decide_eq_true h3]
  | false =>
    rw [if_neg (by simp)]
    have hz : trN d = 0 := by
      rw [trN, List.countP_eq_zero]
      intro es he hq
      obtain ⟨g1, g2⟩ := (mem_reals (by omega) es).1 he
      have hin := (vG_iff.1 g1).2.1
      have hes : ∀ e ∈ es, e.1.toNat < d.length ∧ e.2.toNat < d.length := fun e he => by have := mem_prs.1 (hin e he); omega
      simp only [isTr, Bool.and_eq_true, decide_eq_true_eq] at hq
      have hcn := con_conn (by omega) g1 ((compI_one (by omega) hes).1 hq.1)
      have hsum := degs_sum hin
      rw [g2] at hcn hsum
      have : treeD d = true := by
        rw [treeD, hcn, Bool.true_and, decide_eq_true_eq]; omega
      rw [ht] at this; cases this
    rw [hz]; rfl

theorem trLaw : ∀ d, valid d = true → TrLaw d := fun d hv => by
  have ht := treeLaw d hv
  simp only [TreeLaw, Bool.and_eq_true, beq_iff_eq] at ht
  exact ⟨ht.1.symm, fun h5 => trees_all hv h5, fun h5 es he => ((mem_reals (by omega) es).1 he).1⟩

end Go.Idl

