/- Part 6 of a proof by an ideal interpreter of the code: its definitions and lemmas. Conditions: none. -/
import Derived.KernelRfl
import Derived.Test.YtfoigkkpkalloaaA5
set_option linter.all false
set_option linter.unusedVariables false
set_option linter.unusedSimpArgs false
namespace Go.Idl

def insP (x : Nat × Nat) : List (Nat × Nat) → List (Nat × Nat)
  | [] => [x]
  | y :: r => if Nat.ble y.1 x.1 then x :: y :: r else y :: insP x r

/-- Pairs by laying off the first, again and again. -/
def hh : Nat → List (Nat × Nat) → List (Nat × Nat)
  | 0, _ => []
  | _ + 1, [] => []
  | m + 1, x :: r => (r.take x.1).map (fun y : Nat × Nat => (x.2, y.2)) ++ hh m ((((r.take x.1).map (fun y : Nat × Nat => (y.1 - 1, y.2)) ++ r.drop x.1 : List (Nat × Nat))).foldr insP [])

def inH (h : List (Nat × Nat)) (e : Int × Int) : Bool := h.any fun x => (Nat.beq x.1 e.1.toNat && Nat.beq x.2 e.2.toNat) || (Nat.beq x.2 e.1.toNat && Nat.beq x.1 e.2.toNat)

def hhG (s : List Int) : List (Int × Int) := (prs s.length).filter (inH (hh 8 (s.zipIdx.map fun x => (x.1.toNat, x.2))))

def chkR (s : List Int) : Bool := !(decide (s.sum % 2 = 0) && noneNeg (slS s)) || decide (degs s.length (hhG s) = s)

set_option maxRecDepth 100000 in
theorem chkR_all : (List.range 8).all (fun n => allD chkR n (n - 1) []) = true := by kernel_rfl

/- The search finds all. -/

theorem getD_zero_all {left : List Int} {N : Nat} (hl : left.length = N) : left.all (fun x => decide (x = 0)) = true ↔ ∀ v, v < N → (0 : Int) = left.getD v 0 := by
  rw [List.all_eq_true]
  constructor
  · intro h v hv
    rw [List.getD_eq_getElem?_getD, List.getElem?_eq_getElem (by omega)]
    have := of_decide_eq_true (h _ (List.getElem_mem (show v < left.length by omega)))
    simp [this]
  · intro h x hx
    obtain ⟨v, hv, rfl⟩ := List.getElem_of_mem hx
    have := h v (by omega)
    rw [List.getD_eq_getElem?_getD, List.getElem?_eq_getElem hv] at this
    simpa using this.symm

theorem decAt_get {o : List Int} {i v : Nat} (hv : v < o.length) : (decAt o i).getD v 0 = o.getD v 0 - (if i = v then 1 else 0) := by
  rw [decAt, List.getD_eq_getElem?_getD, List.getElem?_set]
  by_cases h : i = v
  · subst h; simp [hv, List.getD_eq_getElem?_getD]
  · simp [h, List.getD_eq_getElem?_getD]

theorem inc_nonneg (v : Nat) (e : Int × Int) : 0 ≤ inc v e := by simp only [inc]; split <;> split <;> decide

theorem mem_subs {N : Nat} : ∀ (r : List (Int × Int)) (left : List Int) (ch g : List (Int × Int)), (∀ e ∈ r, 0 ≤ e.1 ∧ e.1 < e.2 ∧ e.2 < N) → left.length = N →
    (g ∈ subs r left ch ↔ ∃ s : List (Int × Int), s.Sublist r ∧ g = ch ++ s ∧ ∀ v, v < N → deg s v = left.getD v 0)
  | [], left, ch, g, _, hl => by
    rw [subs]
    constructor
    · intro h
      split at h
      · rename_i hz
        simp at h
        subst h
        exact ⟨[], List.Sublist.refl _, by simp, fun v hv => (getD_zero_all hl).1 hz v hv⟩
      · simp at h
    · rintro ⟨s, hs, rfl, hd⟩
      have : s = [] := by simpa using hs
      subst this
      rw [if_pos ((getD_zero_all hl).2 fun v hv => hd v hv)]
      simp
  | e :: r, left, ch, g, hr, hl => by
    have he := hr e (by simp)
    have hr' : ∀ x ∈ r, 0 ≤ x.1 ∧ x.1 < x.2 ∧ x.2 < N := fun x hx => hr x (by simp [hx])
    have hdl : (decAt (decAt left e.1.toNat) e.2.toNat).length = N := by simp [decAt, hl]
    have hget : ∀ v, v < N → (decAt (decAt left e.1.toNat) e.2.toNat).getD v 0 = left.getD v 0 - inc v e := fun v hv => by
      rw [decAt_get (by simp [decAt]; omega), decAt_get (by omega), inc]
      have c1 : (e.1.toNat = v) = (e.1 = (v : Int)) := by rw [eq_iff_iff]; omega
      have c2 : (e.2.toNat = v) = (e.2 = (v : Int)) := by rw [eq_iff_iff]; omega
      simp only [c1, c2]; omega
    rw [subs, List.mem_append]
    constructor
    · rintro (h | h)
      · split at h
        rotate_left
        · simp at h
        obtain ⟨s, hs, rfl, hd⟩ := (mem_subs r _ _ g hr' hdl).1 h
        refine ⟨e :: s, hs.cons_cons e, by simp, fun v hv => ?_⟩
        have h1 := hd v hv
        rw [hget v hv] at h1
        rw [deg, S_cons]
        have h2 : S s (inc v) = left.getD v 0 - inc v e := h1
        rw [h2]; omega
      · obtain ⟨s, hs, rfl, hd⟩ := (mem_subs r _ _ g hr' hl).1 h
        exact ⟨s, hs.cons e, rfl, hd⟩
    · rintro ⟨s, hs, rfl, hd⟩
      rcases List.sublist_cons_iff.1 hs with hs2 | ⟨s', rfl, hs2⟩
      · exact .inr ((mem_subs r _ _ _ hr' hl).2 ⟨s, hs2, rfl, hd⟩)
      · refine .inl ?_
        have hd' : ∀ v, v < N → inc v e + deg s' v = left.getD v 0 := fun v hv => by
          rw [← hd v hv, deg, deg, S_cons]
        have pos : ∀ x : Int, 0 ≤ x → x < N → (e.1 = x ∨ e.2 = x) → 0 < left.getD x.toNat 0 := fun x h0 h1 h2 => by
          have h3 := hd' x.toNat (by omega)
          have h4 : 0 ≤ deg s' x.toNat := S_nonneg fun y _ => inc_nonneg _ y
          have h5 : 1 ≤ inc x.toNat e := by
            simp only [inc, show ((x.toNat : Nat) : Int) = x by omega]
            rcases h2 with h2 | h2
            · rw [if_pos h2]; split <;> decide
            · rw [if_pos h2]; split <;> decide
          omega
        rw [if_pos ⟨pos e.1 (by omega) (by omega) (.inl rfl), pos e.2 (by omega) (by omega) (.inr rfl)⟩]
        refine (mem_subs r _ _ _ hr' hdl).2 ⟨s', hs2, by simp, fun v hv => ?_⟩
        rw [hget v hv, ← hd' v hv]; omega

theorem ite_iff {α : Type} {p q : Prop} [Decidable p] [Decidable q] (h : p ↔ q) (a b : α) : (if p then a else b) = if q then a else b := by
  by_cases hp : p
  · rw [if_pos hp, if_pos (h.1 hp)]
  · rw [if_neg hp, if_neg fun hq => hp (h.2 hq)]

/- Degrees of a graph of a relation. -/

def mk (u v : Nat) : Int × Int := (min (u : Int) v, max (u : Int) v)

theorem inc_mk_all : (List.range 8).all (fun n => (prs n).all fun e => (List.range n).all fun v => decide (inc v e = S (List.range n) (fun u => if u = v then 0 else if e = mk u v then 1 else 0))) = true := by decide +kernel

theorem inc_mk {n : Nat} (hn : n ≤ 7) {e : Int × Int} (he : e ∈ prs n) {v : Nat} (hv : v < n) : inc v e = S (List.range n) (fun u => if u = v then 0 else if e = mk u v then 1 else 0) := by
  have := List.all_eq_true.1 (List.all_eq_true.1 (List.all_eq_true.1 inc_mk_all n (List.mem_range.2 (by omega))) e he) v (List.mem_range.2 hv)
  exact of_decide_eq_true this

theorem S_ite {α : Type} (l : List α) (p : α → Bool) (f : α → Int) : S (l.filter p) f = S l (fun a => if p a then f a else 0) := by
  induction l with
  | nil => rfl
  | cons a l ih =>
    rw [List.filter_cons, S_cons]
    split <;> rename_i h
    · rw [S_cons, ih]
    · rw [ih]; omega

theorem mk_mem {n u v : Nat} (hu : u < n) (hv : v < n) (h : u ≠ v) : mk u v ∈ prs n := mem_prs.2 (by simp only [mk]; omega)

theorem deg_filter {n : Nat} (hn : n ≤ 7) (p : Int × Int → Bool) {v : Nat} (hv : v < n) : deg ((prs n).filter p) v = S (List.range n) (fun u => if u = v then 0 else if p (mk u v) then 1 else 0) := by
  rw [deg, S_ite, S_congr (g := fun e => S (List.range n) (fun u => if u = v then 0 else if e = mk u v then (if p (mk u v) then 1 else 0) else 0)) fun e he => ?_, S_swap]
  · refine S_congr fun u hu => ?_
    have hu := List.mem_range.1 hu
    by_cases huv : u = v
    · simp only [huv, if_true]; exact S_zero _
    · simp only [if_neg huv]
      have hm := mk_mem hu hv huv
      have h1 := S_one (pw_nodup (prs_pw n)) (mk u v)
      rw [if_pos hm] at h1
      by_cases hp : p (mk u v) = true
      · simp only [hp, if_true]
        exact Eq.trans (S_congr fun e _ => ite_iff eq_comm _ _) h1
      · simp only [if_neg hp, ite_self]; exact S_zero _
  · rw [inc_mk hn he hv]
    by_cases hp : p e = true
    · rw [if_pos hp]
      refine S_congr fun u _ => ?_
      by_cases huv : u = v
      · simp [huv]
      · simp only [if_neg huv]
        by_cases hem : e = mk u v
        · rw [if_pos hem, if_pos hem, ← hem, if_pos hp]
        · rw [if_neg hem, if_neg hem]
    · rw [if_neg hp]
      symm
      rw [S_congr (g := fun _ => 0), S_zero]
      intro u _
      by_cases huv : u = v
      · simp [huv]
      · simp only [if_neg huv]
        by_cases hem : e = mk u v
        · rw [if_pos hem, ← hem, if_neg hp]
        · rw [if_neg hem]

theorem mk_comm (u v : Nat) : mk u v = mk v u := Prod.ext (by simp only [mk]; omega) (by simp only [mk]; omega)

theorem degs_filter {n : Nat} (p : Int × Int → Bool) : degs n ((prs n).filter p) = (List.range n).map (deg ((prs n).filter p)) :=
  degs_eq fun e he => by have := mem_prs.1 (List.mem_filter.1 he).1; omega

theorem graphic_real {d : List Int} (hg : graphic d = true) : ∃ p, degs d.length ((prs d.length).filter p) = d := by
  have hv : valid d = true := by simp only [graphic, Bool.and_eq_true] at hg; exact hg.1.1
  have h1 := (valid_few hv).1
  have h2 := valid_mem hv
  have hc := List.all_eq_true.1 chkR_all d.length (List.mem_range.2 (by omega))
  have h3 := allD_ok chkR d.length (d.length - 1) [] (fall d) hc (fall_len d) (fall_desc d) (fun x hx => by
    have := h2 x (fall_mem.1 hx)
    omega)
  obtain ⟨n, hn⟩ : ∃ n, n = d.length := ⟨_, rfl⟩
  simp only [graphic, hv, Bool.true_and, Bool.and_eq_true, decide_eq_true_eq] at hg
  have hg2 : noneNeg (slS (fall d)) = true := by rw [← slacks_S]; exact hg.2
  simp only [List.reverse_nil, List.nil_append, chkR, fall_sum, hg.1, hg2, decide_true, Bool.and_self, Bool.not_true, Bool.false_or, decide_eq_true_eq, fall_len, hhG] at h3
  generalize inH (hh 8 ((fall d).zipIdx.map fun x => (x.1.toNat, x.2))) = p0 at h3
  have hd : d = (List.range n).map fun v => d.getD v 0 := by
    refine List.ext_getElem (by simp [hn]) fun i k1 k2 => ?_
    simp [List.getD_eq_getElem?_getD, List.getElem?_eq_getElem k1]
  obtain ⟨π, hπ, hfp⟩ := perm_map_inv (f := fun v => d.getD v 0) (fall_perm d) hd
  have hπn : π.Nodup := hπ.nodup_iff.2 List.nodup_range
  have hπl : π.length = n := by rw [hπ.length_eq, List.length_range]
  have hσ : ∀ v, v < n → π.idxOf v < n ∧ π[π.idxOf v]? = some v := fun v hv => by
    have hm : v ∈ π := hπ.mem_iff.2 (List.mem_range.2 hv)
    have := List.idxOf_lt_length_of_mem hm
    exact ⟨by omega, by rw [List.getElem?_eq_getElem this, List.getElem_idxOf]⟩
  have hinj : ∀ u v, u < n → v < n → (π.idxOf u = π.idxOf v ↔ u = v) := fun u v hu hv => by
    constructor
    · intro h
      have h4 := (hσ u hu).2
      rw [h, (hσ v hv).2] at h4
      simpa using h4.symm
    · rintro rfl; rfl
  have hmap : π.map (π.idxOf ·) = List.range n := by
    refine List.ext_getElem (by simp [hπl]) fun i k1 k2 => ?_
    rw [List.getElem_map, List.getElem_range]
    exact hπn.idxOf_getElem i (by simpa using k1)
  refine ⟨fun e => p0 (mk (π.idxOf e.1.toNat) (π.idxOf e.2.toNat)), ?_⟩
  rw [← hn]
  rw [degs_filter]
  conv => rhs; rw [hd]
  refine List.map_congr_left fun v hv => ?_
  have hv := List.mem_range.1 hv
  rw [← hn] at h3
  rw [deg_filter (by omega) _ hv]
  have hp : ∀ u, p0 (mk (π.idxOf (mk u v).1.toNat) (π.idxOf (mk u v).2.toNat)) = p0 (mk (π.idxOf u) (π.idxOf v)) := fun u => by
    rcases Nat.le_total u v with h | h
    · rw [show (mk u v).1.toNat = u by simp only [mk]; omega, show (mk u v).2.toNat = v by simp only [mk]; omega]
    · rw [show (mk u v).1.toNat = v by simp only [mk]; omega, show (mk u v).2.toNat = u by simp only [mk]; omega, mk_comm]
  have e1 : S (List.range n) (fun u => if u = v then 0 else if p0 (mk (π.idxOf (mk u v).1.toNat) (π.idxOf (mk u v).2.toNat)) = true then (1 : Int) else 0) =
      S (List.range n) (fun u => (fun i => if i = π.idxOf v then 0 else if p0 (mk i (π.idxOf v)) = true then (1 : Int) else 0) (π.idxOf u)) := by
    refine S_congr fun u hu => ?_
    rw [hp u]
    exact ite_iff (hinj u v (List.mem_range.1 hu) hv).symm _ _
  rw [e1, ← S_perm hπ]
  have e2 := S_map π (π.idxOf ·) (fun i => if i = π.idxOf v then 0 else if p0 (mk i (π.idxOf v)) = true then (1 : Int) else 0)
  rw [hmap] at e2
  refine e2.symm.trans ?_
  rw [← deg_filter (by omega) p0 (hσ v hv).1]
  have h5 : (degs n ((prs n).filter p0))[π.idxOf v]? = some (deg ((prs n).filter p0) (π.idxOf v)) := by
    rw [degs_filter, List.getElem?_map, List.getElem?_range (hσ v hv).1]; rfl
  rw [h3, hfp, List.getElem?_map, (hσ v hv).2] at h5
  simpa using h5.symm

/-- Graphic degrees are those of a graph. -/
theorem real_ex {d : List Int} (hg : graphic d = true) : ∃ es, vGraph d.length es = true ∧ degs d.length es = d := by
  obtain ⟨p, hp⟩ := graphic_real hg
  have hv : valid d = true := by simp only [graphic, Bool.and_eq_true] at hg; exact hg.1.1
  exact ⟨_, filter_vG (valid_few hv).1 p, hp⟩

theorem graphic_iff_real {d : List Int} (h7 : d.length ≤ 7) : graphic d = true ↔ ∃ es, vGraph d.length es = true ∧ degs d.length es = d := by
  refine ⟨real_ex, ?_⟩
  rintro ⟨es, h1, h2⟩
  have := degs_graphic h1
  rwa [h2] at this

end Go.Idl

namespace Go.Idl

theorem deg_degs {n : Nat} {s : List (Int × Int)} (hs : s.Sublist (prs n)) {d : List Int} (hl : d.length = n) : (∀ v, v < n → deg s v = d.getD v 0) ↔ degs n s = d := by
  rw [degs_eq (prs_in hs)]
  constructor
  · intro h
    refine List.ext_getElem (by simp [hl]) fun v h1 h2 => ?_
    rw [List.getElem_map, List.getElem_range, h v (by omega), List.getD_eq_getElem?_getD, List.getElem?_eq_getElem h2]; rfl
  · intro h v hv
    rw [← h, List.getD_eq_getElem?_getD, List.getElem?_map, List.getElem?_range hv]; rfl

/-- The search finds the valid graphs with the degrees. -/
theorem mem_reals {d : List Int} (h7 : d.length ≤ 7) (g : List (Int × Int)) : g ∈ reals d ↔ vGraph d.length g = true ∧ degs d.length g = d := by
  rw [reals, mem_subs (N := d.length) _ _ _ _ (fun e he => mem_prs.1 he) rfl]
  constructor
  · rintro ⟨s, hs, rfl, hd⟩
    exact ⟨vG_iff.2 ⟨(prs_pw _).sublist hs, fun e he => hs.mem he, h7⟩, (deg_degs hs rfl).1 hd⟩
  · rintro ⟨h1, h2⟩
    exact ⟨g, vG_sub h1, rfl, (deg_degs (vG_sub h1) rfl).2 h2⟩

end Go.Idl

namespace Go.Idl

/-- Only the part from a up to b was changed, and in order only. -/
structure Seg {α : Type} (X X' : List α) (a b : Nat) : Prop where
  perm : X'.Perm X
  out : ∀ k, k < a ∨ b ≤ k → X'[k]? = X[k]?

theorem Seg.len {α : Type} {X X' : List α} {a b : Nat} (h : Seg X X' a b) : X'.length = X.length := h.perm.length_eq

theorem Seg.refl {α : Type} (X : List α) (a b : Nat) : Seg X X a b := ⟨.refl _, fun _ _ => rfl⟩

theorem Seg.trans {α : Type} {X Y Z : List α} {a b : Nat} (h : Seg X Y a b) (k : Seg Y Z a b) : Seg X Z a b := ⟨k.perm.trans h.perm, fun i hi => (k.out i hi).trans (h.out i hi)⟩

theorem Seg.nodup {α : Type} {X Y : List α} {a b : Nat} (h : Seg X Y a b) (hn : X.Nodup) : Y.Nodup := h.perm.nodup_iff.2 hn

/-- Two places changed. -/
def swapL {α : Type} (X : List α) (i j : Nat) (hi : i < X.length) (hj : j < X.length) : List α := (X.set i X[j]).set j X[i]

theorem swapL_len {α : Type} (X : List α) (i j : Nat) (hi hj) : (swapL X i j hi hj).length = X.length := by simp [swapL]

theorem swapL_get {α : Type} (X : List α) (i j : Nat) (hi : i < X.length) (hj : j < X.length) (k : Nat) : (swapL X i j hi hj)[k]? = if k = j then some X[i] else if k = i then some X[j] else X[k]? := by
  rw [swapL, List.getElem?_set, List.getElem?_set]
  by_cases h1 : k = j
  · subst h1; simp [hj]
  · by_cases h2 : k = i
    · subst h2; simp [hi, h1, Ne.symm h1]
    · simp [h1, h2, Ne.symm h1, Ne.symm h2]

theorem swapL_perm {α : Type} (X : List α) (i j : Nat) (hi : i < X.length) (hj : j < X.length) : (swapL X i j hi hj).Perm X := by
  exact List.set_set_perm hi hj

theorem swapL_seg {α : Type} (X : List α) (i j a b : Nat) (hi : i < X.length) (hj : j < X.length) (h1 : a ≤ i ∧ i < b) (h2 : a ≤ j ∧ j < b) : Seg X (swapL X i j hi hj) a b :=
  ⟨swapL_perm X i j hi hj, fun k hk => by rw [swapL_get, if_neg (by omega), if_neg (by omega)]⟩

/-- What stands in the part stood there. -/
theorem Seg.back {α : Type} {X Y : List α} {a b : Nat} (h : Seg X Y a b) (hn : X.Nodup) {k : Nat} (hk : a ≤ k ∧ k < b) {e : α} (he : Y[k]? = some e) : ∃ l, (a ≤ l ∧ l < b) ∧ X[l]? = some e := by
  have hm : e ∈ X := h.perm.mem_iff.1 (List.mem_of_getElem? he)
  obtain ⟨l, hl, rfl⟩ := List.getElem_of_mem hm
  by_cases hlb : a ≤ l ∧ l < b
  · exact ⟨l, hlb, List.getElem?_eq_getElem hl⟩
  · have h1 := h.out l (by omega)
    rw [List.getElem?_eq_getElem hl] at h1
    have hny := h.nodup hn
    have hkl : k < Y.length := (List.getElem?_eq_some_iff.1 he).1
    have hll : l < Y.length := by rw [h.len]; exact hl
    have h2 := (List.getElem?_eq_some_iff.1 he).2
    have h3 := (List.getElem?_eq_some_iff.1 h1).2
    have h4 : k = l := (List.getElem_inj hny).1 (h2.trans h3.symm)
    omega

end Go.Idl

namespace Go.Idl

open Go

def BelowOn (X : List (Int × Int)) (lo hi : Nat) (x : Int × Int) : Prop := ∀ k e, lo ≤ k → k < hi → X[k]? = some e → below e x = true

def AboveOn (X : List (Int × Int)) (lo hi : Nat) (x : Int × Int) : Prop := ∀ k e, lo ≤ k → k < hi → X[k]? = some e → below e x = false

theorem AboveOn.cons {X : List (Int × Int)} {lo hi : Nat} {x : Int × Int} (h : AboveOn X (lo + 1) hi x) (hl : lo < X.length) (hb : below X[lo] x = false) : AboveOn X lo hi x := fun k e h1 h2 he => by
  by_cases hk : k = lo
  · subst hk
    rw [List.getElem?_eq_getElem hl] at he
    cases he; exact hb
  · exact h k e (by omega) h2 he

/-- What the parting keeps. -/
structure PInv (X0 X : List (Int × Int)) (a b i j : Nat) (x : Int × Int) : Prop where
  seg : Seg X0 X a b
  piv : X[a]? = some x
  lo : BelowOn X (a + 1) i x
  hi : AboveOn X (j + 1) b x
  ai : a + 1 ≤ i
  ij : i ≤ j + 1
  jb : j < b
  bl : b ≤ X.length

theorem PInv.swap {X0 X a b i j x} (h : PInv X0 X a b i j x) (hi : i < X.length) (hj : j < X.length) (hij : i ≤ j) (h1 : below X[i] x = false) (h2 : below X[j] x = true) :
    ∃ q, j = q + 1 ∧ i < j ∧ PInv X0 (swapL X i j hi hj) a b (i + 1) q x := by
  have hne : i ≠ j := by rintro rfl; rw [h1] at h2; cases h2
  have hb := h.bl
  have hjb := h.jb
  have hai := h.ai
  refine ⟨j - 1, by omega, by omega, h.seg.trans (swapL_seg X i j a b hi hj (by omega) (by omega)), ?_, ?_, ?_, by omega, by omega, by omega, by rw [swapL_len]; exact hb⟩
  · rw [swapL_get, if_neg (by omega), if_neg (by omega)]; exact h.piv
  · intro k e k1 k2 he
    rw [swapL_get, if_neg (by omega)] at he
    by_cases hk : k = i
    · rw [if_pos hk] at he
      cases he; exact h2
    · rw [if_neg hk] at he
      exact h.lo k e k1 (by omega) he
  · intro k e k1 k2 he
    rw [swapL_get] at he
    by_cases hk : k = j
    · rw [if_pos hk] at he
      cases he; exact h1
    · rw [if_neg hk, if_neg (by omega)] at he
      exact h.hi k e (by omega) k2 he

end Go.Idl

namespace Go.Idl

open Go

/-- A pair put in before the first one that is not below it. -/
def insE (e : Int × Int) : List (Int × Int) → List (Int × Int)
  | [] => [e]
  | x :: r => if below x e then x :: insE e r else e :: x :: r

theorem insE_at (e : Int × Int) (es : List (Int × Int)) (k : Nat) (hk : k ≤ es.length) (h : ∀ x ∈ es.take k, below x e = true) (hs : ∀ h : k < es.length, below es[k] e = false) :
    insE e es = es.take k ++ [e] ++ es.drop k := by
  induction es generalizing k with
  | nil => simp at hk; subst hk; rfl
  | cons x r ih =>
    cases k with
    | zero =>
      have := hs (by simp)
      simp only [List.getElem_cons_zero] at this
      simp [insE, this]
    | succ k =>
      have h1 := h x (by simp)
      rw [insE, if_pos h1, ih k (by simpa using hk) (fun y hy => h y (by simp [hy])) (fun hh => hs (by simpa using hh))]
      simp

theorem insE_len (e : Int × Int) (es : List (Int × Int)) : (insE e es).length = es.length + 1 := by
  induction es with
  | nil => rfl
  | cons x r ih => rw [insE]; split <;> simp [ih]

theorem ev_addEdge (n : Int) (es : List (Int × Int)) (c : Bool) (a b : Int) (hl : es.length ≤ 1000000) :
    Ev tb l_spec_addEdge [] [Gr n es c, I a, I b] [] ⟨OG n (insE (min a b, max a b) es), [], [], []⟩ := by
  obtain ⟨e, he⟩ : ∃ e : Int × Int, e = (min a b, max a b) := ⟨_, rfl⟩
  have he1 : (if b < a then b else a) = e.1 := by rw [he]; simp only; split <;> omega
  have he2 : (if a < b then b else a) = e.2 := by rw [he]; simp only; split <;> omega
  rw [← he]
  have loop : ∀ (m k : Nat), k + m = es.length → (∀ x ∈ es.take k, below x e = true) → wp tb (.loop ic_spec_addEdge_l5) { T := [(3, .bptr 0 0 0), (6, .bptr 0 1 0), (7, .bptr 0 2 0), (8, I k)], loc := [[I n, L2 es c], [I 0, Z], [I e.1, I e.2]], M := [] }
      (fun ex st => ex = .exit 0 ∧ ∃ k : Nat, (k ≤ es.length ∧ (∀ x ∈ es.take k, below x e = true) ∧ (∀ h : k < es.length, below es[k] e = false)) ∧
        st = { T := [(3, .bptr 0 0 0), (6, .bptr 0 1 0), (7, .bptr 0 2 0), (8, I k), (30, Bo false)], loc := [[I n, L2 es c], [I 0, Z], [I e.1, I e.2]], M := [] }) := by
    intro m
    induction m with
    | zero =>
      intro k hk hb
      have h3 : k = es.length := hk
      subst h3
      refine wp_loop ?_
      repeat (first | apply wp_as | apply wp_ss | refine wr (by simp; with_reducible rfl) ?_ | refine wq (by simp; with_reducible rfl) ?_ | refine wt (by simpa) ?_ | refine wf (by simpa) ?_ | refine xt (by simpa) ?_ | refine xf (by simpa) ?_ | apply wp_bs | apply wp_b | refine wp_sr ?_ | refine wp_sx ?_ | refine wp_ret' ?_ | refine wp_skip' ?_ | refine wp_exit' ?_)
      exact ⟨rfl, es.length, ⟨Nat.le_refl _, hb, fun h => absurd h (by omega)⟩, rfl⟩
    | succ m ih =>
      intro k hk hb
      have hi2 : k < es.length := by omega
      have w2 : IntKind.i64.wrap ((k : Int) + 1) = ((k + 1 : Nat) : Int) := wrapS (by omega)
      have e1 := ev_lim (ev_edgeBelow es[k] e)
      cases hq : below es[k] e with
      | true =>
        refine wp_loop ?_
        repeat (first | apply wp_as | apply wp_ss | refine wr (by simp [hi2, e1, hq, w2]; with_reducible rfl) ?_ | refine wq (by simp [hi2, e1, hq, w2]; with_reducible rfl) ?_ | refine wt (by simpa [hi2, e1, hq, w2]) ?_ | refine wf (by simpa [hi2, e1, hq, w2]) ?_ | refine xt (by simpa [hi2, e1, hq, w2]) ?_ | refine xf (by simpa [hi2, e1, hq, w2]) ?_ | apply wp_bs | apply wp_b | refine wp_sr ?_ | refine wp_sx ?_ | refine wp_ret' ?_ | refine wp_skip' ?_ | refine wp_exit' ?_)
        refine ih (k + 1) (by omega) fun x hx => ?_
        rw [List.take_succ_eq_append_getElem hi2] at hx
        rcases List.mem_append.1 hx with hx | hx
        · exact hb x hx
        · simp at hx; subst hx; exact hq
      | false =>
        refine wp_loop ?_
        repeat (first | apply wp_as | apply wp_ss | refine wr (by simp [hi2, e1, hq]; with_reducible rfl) ?_ | refine wq (by simp [hi2, e1, hq]; with_reducible rfl) ?_ | refine wt (by simpa [hi2, e1, hq]) ?_ | refine wf (by simpa [hi2, e1, hq]) ?_ | refine xt (by simpa [hi2, e1, hq]) ?_ | refine xf (by simpa [hi2, e1, hq]) ?_ | apply wp_bs | apply wp_b | refine wp_sr ?_ | refine wp_sx ?_ | refine wp_ret' ?_ | refine wp_skip' ?_ | refine wp_exit' ?_)
        exact ⟨rfl, k, ⟨by omega, hb, fun _ => hq⟩, rfl⟩
  refine call_of_wp tb_spec_addEdge rfl ?_
  repeat (first | apply wp_as | apply wp_ss | refine wr (by simp [he1, he2]; with_reducible rfl) ?_ | refine wq (by simp [he1, he2]; with_reducible rfl) ?_ | refine wt (by simpa [he1, he2]) ?_ | refine wf (by simpa [he1, he2]) ?_ | refine xt (by simpa [he1, he2]) ?_ | refine xf (by simpa [he1, he2]) ?_ | apply wp_bs | apply wp_b | refine wp_sr ?_ | refine wp_sx ?_ | refine wp_ret' ?_ | refine wp_skip' ?_ | refine wp_exit' ?_)
  refine wp_imp (loop es.length 0 (by simp) (by simp)) ?_
  rintro ex st ⟨rfl, k, ⟨hk, hb, hs⟩, rfl⟩
  rw [insE_at e es k hk hb hs]
  try simp only [if_true]
  have hT : es.take es.length = es := List.take_of_length_le (Nat.le_refl _)
  have hT2 : (es.drop k).take (es.length - k) = es.drop k := List.take_of_length_le (by simp)
  have hT3 : (es.take k).take k = es.take k := by rw [List.take_take, Nat.min_self]
  have hl1 : k ≤ 274877906943 := by omega
  have hl2 : k ≤ 274877906944 := by omega
  have hl3 : k + 1 ≤ 274877906944 := by omega
  have hl4 : k + 1 + (es.length - k) ≤ 274877906944 := by omega
  have hT4 : (es.take k ++ [(e.1, e.2)]).take (k + 1) = es.take k ++ [(e.1, e.2)] := List.take_of_length_le (by simp; omega)
  have hmin : min k es.length = k := by omega
  repeat (first | apply wp_as | apply wp_ss | refine wr (by simp [hk, hT, hT2, hT3, hl1, hl2, hl3, hl4, hT4, hmin]; with_reducible rfl) ?_ | refine wq (by simp [hk, hT, hT2, hT3, hl1, hl2, hl3, hl4, hT4, hmin]; with_reducible rfl) ?_ | refine wt (by simpa [hk, hT, hT2, hT3, hl1, hl2, hl3, hl4, hT4, hmin]) ?_ | refine wf (by simpa [hk, hT, hT2, hT3, hl1, hl2, hl3, hl4, hT4, hmin]) ?_ | refine xt (by simpa [hk, hT, hT2, hT3, hl1, hl2, hl3, hl4, hT4, hmin]) ?_ | refine xf (by simpa [hk, hT, hT2, hT3, hl1, hl2, hl3, hl4, hT4, hmin]) ?_ | apply wp_bs | apply wp_b | refine wp_sr ?_ | refine wp_sx ?_ | refine wp_ret' ?_ | refine wp_skip' ?_ | refine wp_exit' ?_)
  refine wp_ra (by simp [hk, hT, hT2, hT3, hl1, hl2, hl3, hl4, hT4, hmin]; with_reducible rfl) (by simp; with_reducible rfl) ?_ ?_
  · intro p hp
    simp only [List.mem_cons, List.not_mem_nil, or_false] at hp
    rcases hp with rfl | rfl | rfl | rfl | rfl | rfl | rfl | rfl | rfl | rfl | rfl
    · exact ⟨_, by simp [hk, hT, hT2, hT3, hl1, hl2, hl3, hl4, hT4, hmin]; with_reducible rfl, by simp⟩
    · exact ⟨_, by simp [hk, hT, hT2, hT3, hl1, hl2, hl3, hl4, hT4, hmin]; with_reducible rfl, by simp⟩
    · exact ⟨_, by simp [hk, hT, hT2, hT3, hl1, hl2, hl3, hl4, hT4, hmin]; with_reducible rfl, by simp⟩
    · exact ⟨_, by simp [hk, hT, hT2, hT3, hl1, hl2, hl3, hl4, hT4, hmin]; with_reducible rfl, by simp⟩
    · exact ⟨_, by simp [hk, hT, hT2, hT3, hl1, hl2, hl3, hl4, hT4, hmin]; with_reducible rfl, by simp⟩
    · exact ⟨_, by simp [hk, hT, hT2, hT3, hl1, hl2, hl3, hl4, hT4, hmin]; with_reducible rfl, by simp⟩
    · exact ⟨_, by simp [hk, hT, hT2, hT3, hl1, hl2, hl3, hl4, hT4, hmin]; with_reducible rfl, by simp⟩
    · exact ⟨_, by simp [hk, hT, hT2, hT3, hl1, hl2, hl3, hl4, hT4, hmin]; with_reducible rfl, by simp⟩
    · exact ⟨_, by simp [hk, hT, hT2, hT3, hl1, hl2, hl3, hl4, hT4, hmin]; with_reducible rfl, by simp⟩
    · exact ⟨_, by simp [hk, hT, hT2, hT3, hl1, hl2, hl3, hl4, hT4, hmin]; with_reducible rfl, by simp⟩
    · exact ⟨_, by simp [hk, hT, hT2, hT3, hl1, hl2, hl3, hl4, hT4, hmin]; with_reducible rfl, by simp⟩
  repeat (first | apply wp_as | apply wp_ss | refine wr (by simp; with_reducible rfl) ?_ | refine wq (by simp; with_reducible rfl) ?_ | refine wt (by simpa) ?_ | refine wf (by simpa) ?_ | refine xt (by simpa) ?_ | refine xf (by simpa) ?_ | apply wp_bs | apply wp_b | refine wp_sr ?_ | refine wp_sx ?_ | refine wp_ret' ?_ | refine wp_skip' ?_ | refine wp_exit' ?_)
  simp [if_spec_addEdge]

end Go.Idl

namespace Go.Idl

open Go

def tab (t : List (List Int)) : List (List IV) := t.map fun r => [.lst 1 (ints r) false]

def oab (t : List (List Int)) : List (List IV) := t.map fun r => [.own 1 (ints r)]

@[simp] theorem tab_len (t : List (List Int)) : (tab t).length = t.length := by simp [tab]

@[simp] theorem oab_len (t : List (List Int)) : (oab t).length = t.length := by simp [oab]

@[simp] theorem oab_nil : oab [] = [] := rfl

@[simp] theorem tab_get? (t : List (List Int)) (i : Nat) : (tab t)[i]? = t[i]?.map fun r => [IV.lst 1 (ints r) false] := by simp [tab]

@[simp] theorem tab_get (t : List (List Int)) (i : Nat) (h : i < (tab t).length) : (tab t)[i] = [IV.lst 1 (ints (t[i]'(by simpa [tab] using h))) false] := by simp [tab]

@[simp] theorem oab_get? (t : List (List Int)) (i : Nat) : (oab t)[i]? = t[i]?.map fun r => [IV.own 1 (ints r)] := by simp [oab]

@[simp] theorem oab_get (t : List (List Int)) (i : Nat) (h : i < (oab t).length) : (oab t)[i] = [IV.own 1 (ints (t[i]'(by simpa [oab] using h)))] := by simp [oab]

@[simp] theorem oab_one (t : List (List Int)) (r : List Int) : oab t ++ [[IV.own 1 (ints r)]] = oab (t ++ [r]) := by simp [oab]

@[simp] theorem oab_set (t : List (List Int)) (i : Nat) (r : List Int) : (oab t).set i [IV.own 1 (ints r)] = oab (t.set i r) := by simp [oab, List.map_set]

@[simp] theorem oab_take (t : List (List Int)) (n : Nat) : (oab t).take n = oab (t.take n) := by simp [oab, List.map_take]

@[simp] theorem frz_oab (t : List (List Int)) : frzLL (oab t) = tab t := by
  induction t with
  | nil => rfl
  | cons x xs ih =>
    simp only [oab, tab, List.map_cons, frzLL, frzL, frzV] at *
    rw [ih]
    have : frzLL (ints x) = ints x := by
      clear ih
      induction x with
      | nil => rfl
      | cons y ys ih => simp only [ints, List.map_cons, frzLL, frzL, frzV] at *; rw [ih]
    rw [this]

@[simp] theorem tab_all1 (t : List (List Int)) : ((tab t).all fun x => x.all IV.plain1) = true := by
  induction t with
  | nil => rfl
  | cons x xs ih => simp only [tab, List.map_cons, List.all_cons] at *; rw [ih]; rfl

@[simp] theorem oab_noLst (t : List (List Int)) : noLstLL (oab t) = true := by
  induction t with
  | nil => rfl
  | cons x xs ih =>
    simp only [oab, List.map_cons, noLstLL, noLstL, noLstV] at *
    rw [ih, ints_noLst]; rfl

/-- An entry. -/
def g2 (t : List (List Int)) (a b : Nat) : Int := (t.getD a []).getD b 0

end Go.Idl

namespace Go.Idl

open Go

/-- Sums of the least, over what tournaments must have. -/
def asc0 (s : List Int) : List Int := (fall s).reverse

def overT (s : List Int) (i : Nat) : Int := ((asc0 s).take (i + 1)).sum - ((i : Int) + 1) * i / 2

def over (s : List Int) : List Int := mapR s.length (overT s)

end Go.Idl

namespace Go.Idl

open Go

/-- A small graph, valid or not. -/
structure SmallG (n : Int) (es : List (Int × Int)) : Prop where
  n1 : -1 ≤ n
  n2 : n ≤ 8
  len : es.length ≤ 60
  el : ∀ e ∈ es, -1 ≤ e.1 ∧ e.1 ≤ 8 ∧ -1 ≤ e.2 ∧ e.2 ≤ 8

theorem SmallG.fit {n es} (h : SmallG n es) : Fit es := fun e he => by have := h.el e he; omega

end Go.Idl

namespace Go.Idl

/-- Laying off by numbers alone, of falling lists. -/
def hv : Nat → List Int → Bool
  | 0, _ => true
  | _ + 1, [] => true
  | m + 1, x :: r => decide (x ≤ r.length) && (r.take x.toNat).all (fun y => !decide (y = 0)) && hv m (fall ((r.take x.toNat).map (fun y => y - 1) ++ r.drop x.toNat))

end Go.Idl

namespace Go.Idl

theorem comp_twice (d : List Int) : comp (comp d) = d := by
  rw [comp_map, comp_map]
  refine List.ext_getElem (by simp) fun i h1 h2 => ?_
  simp only [List.length_map, List.map_map, List.getElem_map, Function.comp_apply]
  omega

end Go.Idl

namespace Go.Idl

open Go

theorem count_F1 (n : Int) (k : Nat) (es : List (Int × Int)) (B : Boxes) (Es : List Boxes) (hk : k ≤ 100000000) :
    Ev tb l_impl_CountRealizations_F1 [] [.agg [I n, O2 es], .bptr 0 0 0] ([[I k]] :: B :: Es) ⟨Bo true, [], [[I ((k + 1 : Nat) : Int)]] :: B :: Es, []⟩ := by
  have w1 : IntKind.i64.wrap ((k : Int) + 1) = ((k + 1 : Nat) : Int) := wrapS (by omega)
  refine call_of_wp tb_impl_CountRealizations_F1 rfl ?_
  repeat (first | apply wp_as | apply wp_ss | refine wr (by simp [w1]; with_reducible rfl) ?_ | refine wq (by simp [w1]; with_reducible rfl) ?_ | refine wt (by simpa [w1]) ?_ | refine wf (by simpa [w1]) ?_ | refine xt (by simpa [w1]) ?_ | refine xf (by simpa [w1]) ?_ | apply wp_bs | apply wp_b | refine wp_sr ?_ | refine wp_sx ?_ | refine wp_ret' ?_ | refine wp_skip' ?_ | refine wp_exit' ?_)
  simp [if_impl_CountRealizations_F1]

theorem calls_count (n : Int) : CallsBack n l_impl_CountRealizations_F1 [.bptr 0 0 0] (fun _ => true) (fun gl bs => bs = [[I gl.length]]) := by
  intro gl bs es hP hl he
  exact ⟨[[I (gl.length + 1 : Nat)]], by simp, fun B Es => by rw [hP]; exact count_F1 n gl.length es B Es (by omega)⟩

theorem ev_CountRealizations_no (d : List Int) (c : Bool) (hl : d.length ≤ 1000000) (hv : (valid d && decide ((d.length : Int) ≤ 6)) = false) : Ev tb l_impl_CountRealizations [] [L d c] [] ⟨I (-1), [], [], []⟩ := by
  have e1 := ev_lim (ev_listed d c 6 hl)
  rw [hv] at e1
  refine call_of_wp tb_impl_CountRealizations rfl ?_
  repeat (first | apply wp_as | apply wp_ss | refine wr (by simp [e1]; with_reducible rfl) ?_ | refine wq (by simp [e1]; with_reducible rfl) ?_ | refine wt (by simpa [e1]) ?_ | refine wf (by simpa [e1]) ?_ | refine xt (by simpa [e1]) ?_ | refine xf (by simpa [e1]) ?_ | apply wp_bs | apply wp_b | refine wp_sr ?_ | refine wp_sx ?_ | refine wp_ret' ?_ | refine wp_skip' ?_ | refine wp_exit' ?_)
  simp [if_impl_CountRealizations]

theorem ev_CountRealizations (d : List Int) (c : Bool) (hv : valid d = true) (h6 : d.length ≤ 6) : Ev tb l_impl_CountRealizations [] [L d c] [] ⟨I (reals d).length, [], [], []⟩ := by
  have hf := valid_few hv
  have e1 := ev_lim (ev_listed d c 6 (by omega))
  rw [hv, decide_eq_true (by omega : (d.length : Int) ≤ 6), Bool.true_and] at e1
  have e2 := ev_lim (ev_impl_pairs d.length (by omega))
  have hpl := prs21 d.length (by omega)
  have hin : ∀ e ∈ prs d.length, 0 ≤ e.1 ∧ e.1 < e.2 ∧ e.2 < d.length := fun e he => mem_prs.1 he
  obtain ⟨bs', k1, k2⟩ : ∃ bs', (fun (gl : List (List (Int × Int))) bs => bs = [[I gl.length]]) (upTo (fun _ => true) (reals d)).1 bs' ∧ Ev tb l_impl_subgraphs [] [I d.length, match nl2 (prs d.length) with | .own e x => .lst e x false | x => x, L d c, .fn l_impl_CountRealizations_F1 [.bptr 0 0 0]] [[[I 0]]] ⟨.tup [], [], [bs'], []⟩ := by
    unfold reals
    cases hq : prs d.length with
    | nil => exact ev_subgraphs d.length 0 [] true d c _ _ _ _ (calls_count d.length) (.inr rfl) (by simp) (by simp) (by omega) (fun x hx => by have := hf.2 x hx; omega) [[I 0]] rfl
    | cons e r =>
      rw [hq] at hin hpl
      exact ev_subgraphs d.length 2 (e :: r) false d c _ _ _ _ (calls_count d.length) (.inl rfl) hin hpl (by omega) (fun x hx => by have := hf.2 x hx; omega) [[I 0]] rfl
  rw [upTo_true] at k1
  simp only at k1
  subst k1
  have e3 := ev_lim k2
  generalize (reals d).length = m at *
  cases hq : prs d.length with
  | nil =>
    rw [hq] at e2 e3
    simp only [nl2_nil] at e2 e3
    refine call_of_wp tb_impl_CountRealizations rfl ?_
    repeat (first | apply wp_as | apply wp_ss | refine wr (by simp [e1, e2, e3]; with_reducible rfl) ?_ | refine wq (by simp [e1, e2, e3]; with_reducible rfl) ?_ | refine wt (by simpa [e1, e2, e3]) ?_ | refine wf (by simpa [e1, e2, e3]) ?_ | refine xt (by simpa [e1, e2, e3]) ?_ | refine xf (by simpa [e1, e2, e3]) ?_ | apply wp_bs | apply wp_b | refine wp_sr ?_ | refine wp_sx ?_ | refine wp_ret' ?_ | refine wp_skip' ?_ | refine wp_exit' ?_)
    simp [if_impl_CountRealizations]
  | cons e r =>
    rw [hq] at e2 e3
    simp only [nl2_cons] at e2 e3
    have hT : (e :: r).take (r.length + 1) = e :: r := List.take_of_length_le (by simp)
    refine call_of_wp tb_impl_CountRealizations rfl ?_
    repeat (first | apply wp_as | apply wp_ss | refine wr (by simp [e1, e2, e3, hT]; with_reducible rfl) ?_ | refine wq (by simp [e1, e2, e3, hT]; with_reducible rfl) ?_ | refine wt (by simpa [e1, e2, e3, hT]) ?_ | refine wf (by simpa [e1, e2, e3, hT]) ?_ | refine xt (by simpa [e1, e2, e3, hT]) ?_ | refine xf (by simpa [e1, e2, e3, hT]) ?_ | apply wp_bs | apply wp_b | refine wp_sr ?_ | refine wp_sx ?_ | refine wp_ret' ?_ | refine wp_skip' ?_ | refine wp_exit' ?_)
    simp [if_impl_CountRealizations]

/-- The reference's search. -/
def srS (n : Nat) (es : List (Int × Int)) (left : List Int) : List (Int × Int) → List (List (Int × Int))
  | [] => if left.sum = 0 then [es] else []
  | e :: r => (if 0 < left.getD e.1.toNat 0 ∧ 0 < left.getD e.2.toNat 0 then srS n (insE e es) (decAt (decAt left e.1.toNat) e.2.toNat) r else []) ++
      (if e.2 + 1 < n ∨ left.getD e.1.toNat 0 = 0 then srS n es left r else [])

theorem srS_len (n : Nat) : ∀ (r : List (Int × Int)) (es : List (Int × Int)) (left : List Int), (srS n es left r).length ≤ 2 ^ r.length
  | [], es, left => by rw [srS]; split <;> simp
  | e :: r, es, left => by
    have h1 := srS_len n r (insE e es) (decAt (decAt left e.1.toNat) e.2.toNat)
    have h2 := srS_len n r es left
    rw [srS, List.length_append, List.length_cons, Nat.pow_succ]
    split <;> split <;> simp <;> omega

/-- Graphs in a slice, as they are handed on. -/
abbrev GF := List (List (Int × Int) × Bool)

def glf (n : Int) (R : GF) : List (List IV) := R.map fun x => [I n, L2 x.1 x.2]

@[simp] theorem glf_len (n : Int) (R : GF) : (glf n R).length = R.length := by simp [glf]

@[simp] theorem glf_nil (n : Int) : glf n [] = [] := rfl

@[simp] theorem glf_app (n : Int) (R S : GF) : glf n R ++ glf n S = glf n (R ++ S) := by simp [glf]

@[simp] theorem glf_take (n : Int) (R : GF) (k : Nat) : (glf n R).take k = glf n (R.take k) := by simp [glf, List.map_take]

@[simp] theorem glf_all (n : Int) (R : GF) : ((glf n R).all fun x => x.all IV.isData) = true := by
  induction R with
  | nil => rfl
  | cons x xs ih => simp only [glf, List.map_cons, List.all_cons] at *; rw [ih]; rfl

set_option maxHeartbeats 4000000 in
theorem ev_search (n : Nat) (hn : n ≤ 7) (all : List (Int × Int)) (hal : all.length ≤ 21) (hall : ∀ e ∈ all, 0 ≤ e.1 ∧ e.1 < e.2 ∧ e.2 < n) :
    ∀ (m k : Nat) (es : List (Int × Int)) (c c2 c3 : Bool) (left : List Int), k + m = all.length → es.length ≤ k → left.length = n → (∀ x ∈ left, 0 ≤ x ∧ x ≤ 6) →
    ∃ R : GF, R.map Prod.fst = srS n es left (all.drop k) ∧ Ev tb l_spec_search [] [Gr n es c, L left c2, L2 all c3, I k] [] ⟨.own 2 (glf n R), [], [], []⟩ := by
  intro m
  induction m with
  | zero =>
    intro k es c c2 c3 left hk hes hl hb
    have h3 : k = all.length := hk
    subst h3
    have hss : SmallSum left := Few.small ⟨by omega, fun x hx => by have := hb x hx; omega⟩
    have e1 := fun c => ev_lim (ev_spec_sum left c hss)
    rw [List.drop_length, srS]
    by_cases h0 : left.sum = 0
    · rw [if_pos h0]
      refine ⟨[(es, c)], rfl, ?_⟩
      refine call_of_wp tb_spec_search rfl ?_
      repeat (first | apply wp_as | apply wp_ss | refine wr (by simp [e1, h0]; with_reducible rfl) ?_ | refine wq (by simp [e1, h0]; with_reducible rfl) ?_ | refine wt (by simpa [e1, h0]) ?_ | refine wf (by simpa [e1, h0]) ?_ | refine xt (by simpa [e1, h0]) ?_ | refine xf (by simpa [e1, h0]) ?_ | apply wp_bs | apply wp_b | refine wp_sr ?_ | refine wp_sx ?_ | refine wp_ret' ?_ | refine wp_skip' ?_ | refine wp_exit' ?_)
      simp [if_spec_search, glf]
    · rw [if_neg h0]
      refine ⟨[], rfl, ?_⟩
      refine call_of_wp tb_spec_search rfl ?_
      repeat (first | apply wp_as | apply wp_ss | refine wr (by simp [e1, h0]; with_reducible rfl) ?_ | refine wq (by simp [e1, h0]; with_reducible rfl) ?_ | refine wt (by simpa [e1, h0]) ?_ | refine wf (by simpa [e1, h0]) ?_ | refine xt (by simpa [e1, h0]) ?_ | refine xf (by simpa [e1, h0]) ?_ | apply wp_bs | apply wp_b | refine wp_sr ?_ | refine wp_sx ?_ | refine wp_ret' ?_ | refine wp_skip' ?_ | refine wp_exit' ?_)
      simp [if_spec_search]
  | succ m ih =>
    intro k es c c2 c3 left hk hes hl hb
    have hk2 : k < all.length := by omega
    have hkn : ¬ k = all.length := by omega
    have hd : all.drop k = all[k] :: all.drop (k + 1) := List.drop_eq_getElem_cons hk2
    obtain ⟨⟨x, y⟩, he⟩ : ∃ e, e = all[k] := ⟨_, rfl⟩
    have hxy := hall _ (List.getElem_mem hk2)
    rw [← he] at hxy
    obtain ⟨a, rfl⟩ := Int.eq_ofNat_of_zero_le hxy.1
    obtain ⟨b, rfl⟩ := Int.eq_ofNat_of_zero_le (show 0 ≤ y by simp only at hxy; omega)
    simp only at hxy
    have he2 := he.symm
    have hal2 : a < left.length := by omega
    have hbl2 : b < left.length := by omega
    have ga : left.getD a 0 = left[a] := by simp [List.getD_eq_getElem?_getD, List.getElem?_eq_getElem hal2]
    have gb : left.getD b 0 = left[b] := by simp [List.getD_eq_getElem?_getD, List.getElem?_eq_getElem hbl2]
    have ba := hb _ (List.getElem_mem hal2)
    have bb := hb _ (List.getElem_mem hbl2)
    have hab : ¬ a = b := by omega
    have w1 : IntKind.i64.wrap ((k : Int) + 1) = ((k + 1 : Nat) : Int) := wrapS (by omega)
    have w2 : IntKind.i64.wrap ((b : Int) + 1) = (b : Int) + 1 := wrap64 (by omega) (by omega)
    have w3 : IntKind.i64.wrap (left[a] - 1) = left[a] - 1 := wrap64 (by omega) (by omega)
    have w4 : IntKind.i64.wrap (left[b] - 1) = left[b] - 1 := wrap64 (by omega) (by omega)
    have e2 := fun c => ev_lim (ev_copyInts left c (by omega))
    have e3 := fun c => ev_lim (ev_addEdge n es c a b (by omega))
    have hmn : ((min (a : Int) b, max (a : Int) b) : Int × Int) = ((a : Int), (b : Int)) := by
      rw [Int.min_eq_left (by omega), Int.max_eq_right (by omega)]
    rw [hmn] at e3
    have hd2 : decAt (decAt left a) b = (left.set a (left[a] - 1)).set b (left[b] - 1) := by
      have h1 : decAt left a = left.set a (left[a] - 1) := by rw [decAt, ga]
      have h2 : (left.set a (left[a] - 1)).getD b 0 = left[b] := by
        rw [List.getD_eq_getElem?_getD, List.getElem?_set_ne hab, List.getElem?_eq_getElem hbl2]; rfl
      rw [h1, decAt, h2]
    rw [hd, ← he, srS, Int.toNat_natCast, Int.toNat_natCast, ga, gb, hd2]
    have h2p : (2 : Nat) ^ (all.drop (k + 1)).length ≤ 2 ^ 21 := Nat.pow_le_pow_right (by omega) (by simp; omega)
    have hL1 := srS_len n (all.drop (k + 1)) (insE ((a : Int), (b : Int)) es) ((left.set a (left[a] - 1)).set b (left[b] - 1))
    have hL2 := srS_len n (all.drop (k + 1)) es left
    by_cases h1 : 0 < left[a]
    · by_cases h2 : 0 < left[b]
      · rw [if_pos ⟨h1, h2⟩]
        obtain ⟨R1, hR1, E1⟩ := ih (k + 1) (insE ((a : Int), (b : Int)) es) false false c3 ((left.set a (left[a] - 1)).set b (left[b] - 1)) (by omega) (by rw [insE_len]; omega) (by simp [hl]) (fun x hx => by
          rcases List.mem_or_eq_of_mem_set hx with hx | rfl
          · rcases List.mem_or_eq_of_mem_set hx with hx | rfl
            · exact hb x hx
            · omega
          · omega)
        have l1 : R1.length ≤ 2097152 := by rw [← List.length_map (f := Prod.fst), hR1]; omega
        have E1 := ev_lim E1
        rw [show ((k + 1 : Nat) : Int) = (k : Int) + 1 by omega] at E1
        by_cases h3 : (b : Int) + 1 < n ∨ left[a] = 0
        · rw [if_pos h3]
          have h3' : (b : Int) + 1 < n := by omega
          obtain ⟨R2, hR2, E2⟩ := ih (k + 1) es c c2 c3 left (by omega) (by omega) hl hb
          have l2 : R2.length ≤ 2097152 := by rw [← List.length_map (f := Prod.fst), hR2]; omega
          have E2 := ev_lim E2
          rw [show ((k + 1 : Nat) : Int) = (k : Int) + 1 by omega] at E2
          refine ⟨R1 ++ R2, by rw [List.map_append, hR1, hR2], ?_⟩
          have q1 : R1.length ≤ 274877906944 := by omega
          have q2 : R1.length + R2.length ≤ 274877906944 := by omega
          have t1 : R1.take R1.length = R1 := List.take_of_length_le (Nat.le_refl _)
          have t2 : (R1 ++ R2).take (R1.length + R2.length) = R1 ++ R2 := List.take_of_length_le (by simp)
          refine call_of_wp tb_spec_search rfl ?_
          repeat (first | apply wp_as | apply wp_ss | refine wr (by simp [hk2, hkn, Int.ofNat_inj, he2, hal2, hbl2, h1, h2, e2, e3, w1, w2, w3, w4, hab, E1, E2, h3', q1, q2, t1, t2]; with_reducible rfl) ?_ | refine wq (by simp [hk2, hkn, Int.ofNat_inj, he2, hal2, hbl2, h1, h2, e2, e3, w1, w2, w3, w4, hab, E1, E2, h3', q1, q2, t1, t2]; with_reducible rfl) ?_ | refine wt (by simpa [hk2, hkn, Int.ofNat_inj, he2, hal2, hbl2, h1, h2, e2, e3, w1, w2, w3, w4, hab, E1, E2, h3', q1, q2, t1, t2]) ?_ | refine wf (by simpa [hk2, hkn, Int.ofNat_inj, he2, hal2, hbl2, h1, h2, e2, e3, w1, w2, w3, w4, hab, E1, E2, h3', q1, q2, t1, t2]) ?_ | refine xt (by simpa [hk2, hkn, Int.ofNat_inj, he2, hal2, hbl2, h1, h2, e2, e3, w1, w2, w3, w4, hab, E1, E2, h3', q1, q2, t1, t2]) ?_ | refine xf (by simpa [hk2, hkn, Int.ofNat_inj, he2, hal2, hbl2, h1, h2, e2, e3, w1, w2, w3, w4, hab, E1, E2, h3', q1, q2, t1, t2]) ?_ | apply wp_bs | apply wp_b | refine wp_sr ?_ | refine wp_sx ?_ | refine wp_ret' ?_ | refine wp_skip' ?_ | refine wp_exit' ?_)
          simp [if_spec_search]
        · rw [if_neg h3]
          have h3' : ¬ (b : Int) + 1 < n := by omega
          have h3'' : ¬ left[a] = 0 := by omega
          refine ⟨R1, by rw [hR1, List.append_nil], ?_⟩
          have q1 : R1.length ≤ 274877906944 := by omega
          have t1 : R1.take R1.length = R1 := List.take_of_length_le (Nat.le_refl _)
          refine call_of_wp tb_spec_search rfl ?_
          repeat (first | apply wp_as | apply wp_ss | refine wr (by simp [hk2, hkn, Int.ofNat_inj, he2, hal2, hbl2, h1, h2, e2, e3, w1, w2, w3, w4, hab, E1, h3', h3'', q1, t1]; with_reducible rfl) ?_ | refine wq (by simp [hk2, hkn, Int.ofNat_inj, he2, hal2, hbl2, h1, h2, e2, e3, w1, w2, w3, w4, hab, E1, h3', h3'', q1, t1]; with_reducible rfl) ?_ | refine wt (by simpa [hk2, hkn, Int.ofNat_inj, he2, hal2, hbl2, h1, h2, e2, e3, w1, w2, w3, w4, hab, E1, h3', h3'', q1, t1]) ?_ | refine wf (by simpa [hk2, hkn, Int.ofNat_inj, he2, hal2, hbl2, h1, h2, e2, e3, w1, w2, w3, w4, hab, E1, h3', h3'', q1, t1]) ?_ | refine xt (by simpa [hk2, hkn, Int.ofNat_inj, he2, hal2, hbl2, h1, h2, e2, e3, w1, w2, w3, w4, hab, E1, h3', h3'', q1, t1]) ?_ | refine xf (by simpa [hk2, hkn, Int.ofNat_inj, he2, hal2, hbl2, h1, h2, e2, e3, w1, w2, w3, w4, hab, E1, h3', h3'', q1, t1]) ?_ | apply wp_bs | apply wp_b | refine wp_sr ?_ | refine wp_sx ?_ | refine wp_ret' ?_ | refine wp_skip' ?_ | refine wp_exit' ?_)
          simp [if_spec_search]
      · rw [if_neg (fun h => h2 h.2)]
        by_cases h3 : (b : Int) + 1 < n ∨ left[a] = 0
        · rw [if_pos h3]
          have h3' : (b : Int) + 1 < n := by omega
          obtain ⟨R2, hR2, E2⟩ := ih (k + 1) es c c2 c3 left (by omega) (by omega) hl hb
          have l2 : R2.length ≤ 2097152 := by rw [← List.length_map (f := Prod.fst), hR2]; omega
          have E2 := ev_lim E2
          rw [show ((k + 1 : Nat) : Int) = (k : Int) + 1 by omega] at E2
          refine ⟨R2, by rw [hR2, List.nil_append], ?_⟩
          have q1 : R2.length ≤ 274877906944 := by omega
          have t1 : R2.take R2.length = R2 := List.take_of_length_le (Nat.le_refl _)
          refine call_of_wp tb_spec_search rfl ?_
          repeat (first | apply wp_as | apply wp_ss | refine wr (by simp [hk2, hkn, Int.ofNat_inj, he2, hal2, hbl2, h1, h2, w1, w2, E2, h3', q1, t1]; with_reducible rfl) ?_ | refine wq (by simp [hk2, hkn, Int.ofNat_inj, he2, hal2, hbl2, h1, h2, w1, w2, E2, h3', q1, t1]; with_reducible rfl) ?_ | refine wt (by simpa [hk2, hkn, Int.ofNat_inj, he2, hal2, hbl2, h1, h2, w1, w2, E2, h3', q1, t1]) ?_ | refine wf (by simpa [hk2, hkn, Int.ofNat_inj, he2, hal2, hbl2, h1, h2, w1, w2, E2, h3', q1, t1]) ?_ | refine xt (by simpa [hk2, hkn, Int.ofNat_inj, he2, hal2, hbl2, h1, h2, w1, w2, E2, h3', q1, t1]) ?_ | refine xf (by simpa [hk2, hkn, Int.ofNat_inj, he2, hal2, hbl2, h1, h2, w1, w2, E2, h3', q1, t1]) ?_ | apply wp_bs | apply wp_b | refine wp_sr ?_ | refine wp_sx ?_ | refine wp_ret' ?_ | refine wp_skip' ?_ | refine wp_exit' ?_)
          simp [if_spec_search]
        · rw [if_neg h3]
          have h3' : ¬ (b : Int) + 1 < n := by omega
          have h3'' : ¬ left[a] = 0 := by omega
          refine ⟨[], rfl, ?_⟩
          refine call_of_wp tb_spec_search rfl ?_
          repeat (first | apply wp_as | apply wp_ss | refine wr (by simp [hk2, hkn, Int.ofNat_inj, he2, hal2, hbl2, h1, h2, w1, w2, h3', h3'']; with_reducible rfl) ?_ | refine wq (by simp [hk2, hkn, Int.ofNat_inj, he2, hal2, hbl2, h1, h2, w1, w2, h3', h3'']; with_reducible rfl) ?_ | refine wt (by simpa [hk2, hkn, Int.ofNat_inj, he2, hal2, hbl2, h1, h2, w1, w2, h3', h3'']) ?_ | refine wf (by simpa [hk2, hkn, Int.ofNat_inj, he2, hal2, hbl2, h1, h2, w1, w2, h3', h3'']) ?_ | refine xt (by simpa [hk2, hkn, Int.ofNat_inj, he2, hal2, hbl2, h1, h2, w1, w2, h3', h3'']) ?_ | refine xf (by simpa [hk2, hkn, Int.ofNat_inj, he2, hal2, hbl2, h1, h2, w1, w2, h3', h3'']) ?_ | apply wp_bs | apply wp_b | refine wp_sr ?_ | refine wp_sx ?_ | refine wp_ret' ?_ | refine wp_skip' ?_ | refine wp_exit' ?_)
          simp [if_spec_search]
    · rw [if_neg (fun h => h1 h.1)]
      have h0 : left[a] = 0 := by omega
      rw [if_pos (.inr h0)]
      obtain ⟨R2, hR2, E2⟩ := ih (k + 1) es c c2 c3 left (by omega) (by omega) hl hb
      have l2 : R2.length ≤ 2097152 := by rw [← List.length_map (f := Prod.fst), hR2]; omega
      have E2 := ev_lim E2
      rw [show ((k + 1 : Nat) : Int) = (k : Int) + 1 by omega] at E2
      refine ⟨R2, by rw [hR2, List.nil_append], ?_⟩
      have q1 : R2.length ≤ 274877906944 := by omega
      have t1 : R2.take R2.length = R2 := List.take_of_length_le (Nat.le_refl _)
      by_cases h3 : (b : Int) + 1 < n
      · refine call_of_wp tb_spec_search rfl ?_
        repeat (first | apply wp_as | apply wp_ss | refine wr (by simp [hk2, hkn, Int.ofNat_inj, he2, hal2, hbl2, h0, w1, w2, E2, h3, q1, t1]; with_reducible rfl) ?_ | refine wq (by simp [hk2, hkn, Int.ofNat_inj, he2, hal2, hbl2, h0, w1, w2, E2, h3, q1, t1]; with_reducible rfl) ?_ | refine wt (by simpa [hk2, hkn, Int.ofNat_inj, he2, hal2, hbl2, h0, w1, w2, E2, h3, q1, t1]) ?_ | refine wf (by simpa [hk2, hkn, Int.ofNat_inj, he2, hal2, hbl2, h0, w1, w2, E2, h3, q1, t1]) ?_ | refine xt (by simpa [hk2, hkn, Int.ofNat_inj, he2, hal2, hbl2, h0, w1, w2, E2, h3, q1, t1]) ?_ | refine xf (by simpa [hk2, hkn, Int.ofNat_inj, he2, hal2, hbl2, h0, w1, w2, E2, h3, q1, t1]) ?_ | apply wp_bs | apply wp_b | refine wp_sr ?_ | refine wp_sx ?_ | refine wp_ret' ?_ | refine wp_skip' ?_ | refine wp_exit' ?_)
        simp [if_spec_search]
      · refine call_of_wp tb_spec_search rfl ?_
        repeat (first | apply wp_as | apply wp_ss | refine wr (by simp [hk2, hkn, Int.ofNat_inj, he2, hal2, hbl2, h0, w1, w2, E2, h3, q1, t1]; with_reducible rfl) ?_ | refine wq (by simp [hk2, hkn, Int.ofNat_inj, he2, hal2, hbl2, h0, w1, w2, E2, h3, q1, t1]; with_reducible rfl) ?_ | refine wt (by simpa [hk2, hkn, Int.ofNat_inj, he2, hal2, hbl2, h0, w1, w2, E2, h3, q1, t1]) ?_ | refine wf (by simpa [hk2, hkn, Int.ofNat_inj, he2, hal2, hbl2, h0, w1, w2, E2, h3, q1, t1]) ?_ | refine xt (by simpa [hk2, hkn, Int.ofNat_inj, he2, hal2, hbl2, h0, w1, w2, E2, h3, q1, t1]) ?_ | refine xf (by simpa [hk2, hkn, Int.ofNat_inj, he2, hal2, hbl2, h0, w1, w2, E2, h3, q1, t1]) ?_ | apply wp_bs | apply wp_b | refine wp_sr ?_ | refine wp_sx ?_ | refine wp_ret' ?_ | refine wp_skip' ?_ | refine wp_exit' ?_)
        simp [if_spec_search]

end Go.Idl

namespace Go.Idl

open Go

theorem ev_realizations (d : List Int) (c : Bool) (hv : valid d = true) :
    ∃ R : GF, R.map Prod.fst = srS d.length [] d (prs d.length) ∧ Ev tb l_spec_realizations [] [L d c] [] ⟨.own 2 (glf d.length R), [], [], []⟩ := by
  have hf := valid_few hv
  have hd7 := hf.1
  have hpl := prs21 d.length (by omega)
  have hin : ∀ e ∈ prs d.length, 0 ≤ e.1 ∧ e.1 < e.2 ∧ e.2 < d.length := fun e he => mem_prs.1 he
  obtain ⟨R, hR, E⟩ := ev_search d.length hf.1 (prs d.length) hpl hin (prs d.length).length 0 [] false c false d (by omega) (by simp) rfl (fun x hx => by have := hf.2 x hx; omega)
  rw [List.drop_zero] at hR
  refine ⟨R, hR, ?_⟩
  have e1 := ev_lim (ev_pairs d.length (by omega))
  have e2 := ev_lim E
  rw [show ((0 : Nat) : Int) = 0 from rfl] at e2
  simp only [Gr, L2, eds_nil] at e2
  generalize prs d.length = P at *
  refine call_of_wp tb_spec_realizations rfl ?_
  repeat (first | apply wp_as | apply wp_ss | refine wr (by simp [e1, e2]; with_reducible rfl) ?_ | refine wq (by simp [e1, e2]; with_reducible rfl) ?_ | refine wt (by simpa [e1, e2]) ?_ | refine wf (by simpa [e1, e2]) ?_ | refine xt (by simpa [e1, e2]) ?_ | refine xf (by simpa [e1, e2]) ?_ | apply wp_bs | apply wp_b | refine wp_sr ?_ | refine wp_sx ?_ | refine wp_ret' ?_ | refine wp_skip' ?_ | refine wp_exit' ?_)
  simp [if_spec_realizations]

theorem ev_spec_CountRealizations (d : List Int) (c : Bool) (hv : valid d = true) (h6 : d.length ≤ 6) : Ev tb l_spec_CountRealizations [] [L d c] [] ⟨I (srS d.length [] d (prs d.length)).length, [], [], []⟩ := by
  obtain ⟨R, hR, E⟩ := ev_realizations d c hv
  have e1 := ev_lim (ev_validDegrees d c (by omega))
  rw [hv] at e1
  have e2 := ev_lim E
  have h7 : ¬ (6 : Int) < d.length := by omega
  rw [← hR, List.length_map]
  refine call_of_wp tb_spec_CountRealizations rfl ?_
  repeat (first | apply wp_as | apply wp_ss | refine wr (by simp [e1, e2, h7]; with_reducible rfl) ?_ | refine wq (by simp [e1, e2, h7]; with_reducible rfl) ?_ | refine wt (by simpa [e1, e2, h7]) ?_ | refine wf (by simpa [e1, e2, h7]) ?_ | refine xt (by simpa [e1, e2, h7]) ?_ | refine xf (by simpa [e1, e2, h7]) ?_ | apply wp_bs | apply wp_b | refine wp_sr ?_ | refine wp_sx ?_ | refine wp_ret' ?_ | refine wp_skip' ?_ | refine wp_exit' ?_)
  simp [if_spec_CountRealizations]

theorem ev_spec_CountRealizations_no (d : List Int) (c : Bool) (hl : d.length ≤ 1000000) (hv : (valid d && decide ((d.length : Int) ≤ 6)) = false) : Ev tb l_spec_CountRealizations [] [L d c] [] ⟨I (-1), [], [], []⟩ := by
  have e1 := ev_lim (ev_validDegrees d c hl)
  cases h : valid d with
  | false =>
    rw [h] at e1
    refine call_of_wp tb_spec_CountRealizations rfl ?_
    repeat (first | apply wp_as | apply wp_ss | refine wr (by simp [e1]; with_reducible rfl) ?_ | refine wq (by simp [e1]; with_reducible rfl) ?_ | refine wt (by simpa [e1]) ?_ | refine wf (by simpa [e1]) ?_ | refine xt (by simpa [e1]) ?_ | refine xf (by simpa [e1]) ?_ | apply wp_bs | apply wp_b | refine wp_sr ?_ | refine wp_sx ?_ | refine wp_ret' ?_ | refine wp_skip' ?_ | refine wp_exit' ?_)
    simp [if_spec_CountRealizations]
  | true =>
    rw [h] at e1 hv
    have h7 : (6 : Int) < d.length := by simpa using hv
    refine call_of_wp tb_spec_CountRealizations rfl ?_
    repeat (first | apply wp_as | apply wp_ss | refine wr (by simp [e1, h7]; with_reducible rfl) ?_ | refine wq (by simp [e1, h7]; with_reducible rfl) ?_ | refine wt (by simpa [e1, h7]) ?_ | refine wf (by simpa [e1, h7]) ?_ | refine xt (by simpa [e1, h7]) ?_ | refine xf (by simpa [e1, h7]) ?_ | apply wp_bs | apply wp_b | refine wp_sr ?_ | refine wp_sx ?_ | refine wp_ret' ?_ | refine wp_skip' ?_ | refine wp_exit' ?_)
    simp [if_spec_CountRealizations]

theorem ev_DrawCountRealizations (code : List Int) (c : Bool) (h : ∀ x ∈ code, 0 ≤ x ∧ x ≤ 255) (hl : code.length ≤ 10000000) :
    ∃ d : List Int, d.length ≤ 8 ∧ Low 1000 d ∧ limF tb l_spec_DrawCountRealizations [] [.lst 1 (bytes code) c] [] = some ⟨O d, [], [], []⟩ := by
  obtain ⟨c', e⟩ := ev_newReader code c [[]] (by omega)
  have e1 := ev_lim e
  obtain ⟨v, k1, hv, hk1, e2⟩ := pick' (code.take 2000) c' (code_ok h) 0 (by omega) 6 (by omega) [] []
  rw [show ((0 : Nat) : Int) = 0 from rfl] at e2
  by_cases hv0 : v = 0
  · subst hv0
    obtain ⟨es, k, hs, hk, ea⟩ := ev_aGraph (code.take 2000) c' (code_ok h) k1 (by omega) 6 (by omega) [] []
    have e3 := ev_lim ea
    have hel := prs_len (n := 6) (by omega) hs
    have e4 := ev_lim (ev_degrees 6 es false (by omega) (by omega) (prs_in hs))
    have hdl : (degs 6 es).length = 6 := by rw [degs, dfold_len]; simp
    have hlo : Low 1000 (degs 6 es) := by
      intro x hx
      have := dfold_bound es (List.replicate 6 0) 0 (by intro x hx; have := List.eq_of_mem_replicate hx; omega) (by omega) x hx
      omega
    refine ⟨degs 6 es, by omega, hlo, ev_lim ?_⟩
    rw [show ((6 : Nat) : Int) = 6 from rfl] at e3 e4
    refine call_of_wp tb_spec_DrawCountRealizations rfl ?_
    repeat (first | apply wp_as | apply wp_ss | refine wr (by simp [e1, e2, e3, e4]; with_reducible rfl) ?_ | refine wq (by simp [e1, e2, e3, e4]; with_reducible rfl) ?_ | refine wt (by simpa [e1, e2, e3, e4]) ?_ | refine wf (by simpa [e1, e2, e3, e4]) ?_ | refine xt (by simpa [e1, e2, e3, e4]) ?_ | refine xf (by simpa [e1, e2, e3, e4]) ?_ | apply wp_bs | apply wp_b | refine wp_sr ?_ | refine wp_sx ?_ | refine wp_ret' ?_ | refine wp_skip' ?_ | refine wp_exit' ?_)
    simp [if_spec_DrawCountRealizations]
  · have hv1 : ¬ (v : Int) = 0 := by omega
    obtain ⟨d, k, h1, h2, h3, e3⟩ := ev_fewDegrees (code.take 2000) c' (code_ok h) k1 (by omega) [] []
    refine ⟨d, h1, h2, ev_lim ?_⟩
    refine call_of_wp tb_spec_DrawCountRealizations rfl ?_
    repeat (first | apply wp_as | apply wp_ss | refine wr (by simp [e1, e2, e3, hv0, hv1]; with_reducible rfl) ?_ | refine wq (by simp [e1, e2, e3, hv0, hv1]; with_reducible rfl) ?_ | refine wt (by simpa [e1, e2, e3, hv0, hv1]) ?_ | refine wf (by simpa [e1, e2, e3, hv0, hv1]) ?_ | refine xt (by simpa [e1, e2, e3, hv0, hv1]) ?_ | refine xf (by simpa [e1, e2, e3, hv0, hv1]) ?_ | apply wp_bs | apply wp_b | refine wp_sr ?_ | refine wp_sx ?_ | refine wp_ret' ?_ | refine wp_skip' ?_ | refine wp_exit' ?_)
    simp [if_spec_DrawCountRealizations]

theorem fall_valid {d : List Int} (hv : valid d = true) : valid (fall d) = true := by
  have hf := valid_few hv
  have hm := valid_mem hv
  rw [valid, Bool.and_eq_true, decide_eq_true_eq, List.all_eq_true, fall_len]
  refine ⟨hf.1, fun x hx => ?_⟩
  have := hm x (fall_mem.1 hx)
  simp only [Bool.and_eq_true, decide_eq_true_eq]
  exact this

/-- What the law FnCountRealizations says of degrees. -/
structure CntLaw (d : List Int) : Prop where
  same : (srS d.length [] d (prs d.length)).length = (reals d).length
  com : (reals (comp d)).length = (reals d).length
  srt : (reals (fall d)).length = (reals d).length
  gra : graphic d = decide (0 < (reals d).length)

theorem ev_FnCountRealizations (law : ∀ d, valid d = true → CntLaw d) (code : List Int) (c : Bool) (h : ∀ x ∈ code, 0 ≤ x ∧ x ≤ 255) :
    Ev tb l_laws_FnCountRealizations [] [.lst 1 (bytes code) c] [] ⟨Bo true, [], [], []⟩ := by
  by_cases hc : (1048576 : Int) < code.length
  · refine call_of_wp tb_laws_FnCountRealizations rfl ?_
    repeat (first | apply wp_as | apply wp_ss | refine wr (by simp [hc]; with_reducible rfl) ?_ | refine wq (by simp [hc]; with_reducible rfl) ?_ | refine wt (by simpa [hc]) ?_ | refine wf (by simpa [hc]) ?_ | refine xt (by simpa [hc]) ?_ | refine xf (by simpa [hc]) ?_ | apply wp_bs | apply wp_b | refine wp_sr ?_ | refine wp_sx ?_ | refine wp_ret' ?_ | refine wp_skip' ?_ | refine wp_exit' ?_)
    simp [if_laws_FnCountRealizations]
  obtain ⟨d, hd, hlo, e1⟩ := ev_DrawCountRealizations code c h (by omega)
  have v1 := ev_lim (ev_ValidDegrees d false (by omega))
  cases hv : valid d with
  | false =>
    rw [hv] at v1
    have e2 := ev_lim (ev_CountRealizations_no d false (by omega) (by rw [hv]; rfl))
    have e3 := ev_lim (ev_spec_CountRealizations_no d false (by omega) (by rw [hv]; rfl))
    refine call_of_wp tb_laws_FnCountRealizations rfl ?_
    repeat (first | apply wp_as | apply wp_ss | refine wr (by simp [hc, e1, e2, e3, v1]; with_reducible rfl) ?_ | refine wq (by simp [hc, e1, e2, e3, v1]; with_reducible rfl) ?_ | refine wt (by simpa [hc, e1, e2, e3, v1]) ?_ | refine wf (by simpa [hc, e1, e2, e3, v1]) ?_ | refine xt (by simpa [hc, e1, e2, e3, v1]) ?_ | refine xf (by simpa [hc, e1, e2, e3, v1]) ?_ | apply wp_bs | apply wp_b | refine wp_sr ?_ | refine wp_sx ?_ | refine wp_ret' ?_ | refine wp_skip' ?_ | refine wp_exit' ?_)
    simp [if_laws_FnCountRealizations]
  | true =>
  rw [hv] at v1
  by_cases h6 : (6 : Int) < d.length
  · have e2 := ev_lim (ev_CountRealizations_no d false (by omega) (by rw [hv]; simp; omega))
    have e3 := ev_lim (ev_spec_CountRealizations_no d false (by omega) (by rw [hv]; simp; omega))
    refine call_of_wp tb_laws_FnCountRealizations rfl ?_
    repeat (first | apply wp_as | apply wp_ss | refine wr (by simp [hc, e1, e2, e3, v1, h6]; with_reducible rfl) ?_ | refine wq (by simp [hc, e1, e2, e3, v1, h6]; with_reducible rfl) ?_ | refine wt (by simpa [hc, e1, e2, e3, v1, h6]) ?_ | refine wf (by simpa [hc, e1, e2, e3, v1, h6]) ?_ | refine xt (by simpa [hc, e1, e2, e3, v1, h6]) ?_ | refine xf (by simpa [hc, e1, e2, e3, v1, h6]) ?_ | apply wp_bs | apply wp_b | refine wp_sr ?_ | refine wp_sx ?_ | refine wp_ret' ?_ | refine wp_skip' ?_ | refine wp_exit' ?_)
    simp [if_laws_FnCountRealizations]
  obtain ⟨l1, l2, l3, l4⟩ := law d hv
  have hcl : (comp d).length = d.length := by simp [comp]
  have e2 := ev_lim (ev_CountRealizations d false hv (by omega))
  have e3 := ev_lim (ev_spec_CountRealizations d false hv (by omega))
  have e4 := ev_lim (ev_Complement d false hv)
  have e5 := ev_lim (ev_CountRealizations (comp d) false (comp_valid hv) (by omega))
  have e6 := ev_lim (ev_SortDegrees d false hv)
  have e7 := ev_lim (ev_CountRealizations (fall d) false (fall_valid hv) (by rw [fall_len]; omega))
  have e8 := ev_lim (ev_IsGraphic d false (by omega))
  rw [l1] at e3
  rw [l2] at e5
  rw [l3] at e7
  rw [l4] at e8
  generalize (reals d).length = m at *
  generalize comp d = cd at *
  generalize fall d = fd at *
  by_cases h0 : 0 < m
  · have h0' : (0 : Int) < m := by omega
    rw [decide_eq_true h0] at e8
    refine call_of_wp tb_laws_FnCountRealizations rfl ?_
    repeat (first | apply wp_as | apply wp_ss | refine wr (by simp [hc, e1, e2, e3, v1, h6, e4, e5, e6, e7, e8, h0']; with_reducible rfl) ?_ | refine wq (by simp [hc, e1, e2, e3, v1, h6, e4, e5, e6, e7, e8, h0']; with_reducible rfl) ?_ | refine wt (by simpa [hc, e1, e2, e3, v1, h6, e4, e5, e6, e7, e8, h0']) ?_ | refine wf (by simpa [hc, e1, e2, e3, v1, h6, e4, e5, e6, e7, e8, h0']) ?_ | refine xt (by simpa [hc, e1, e2, e3, v1, h6, e4, e5, e6, e7, e8, h0']) ?_ | refine xf (by simpa [hc, e1, e2, e3, v1, h6, e4, e5, e6, e7, e8, h0']) ?_ | apply wp_bs | apply wp_b | refine wp_sr ?_ | refine wp_sx ?_ | refine wp_ret' ?_ | refine wp_skip' ?_ | refine wp_exit' ?_)
    simp [if_laws_FnCountRealizations, h0]
  · have h0' : ¬ (0 : Int) < m := by omega
    rw [decide_eq_false h0] at e8
    refine call_of_wp tb_laws_FnCountRealizations rfl ?_
    repeat (first | apply wp_as | apply wp_ss | refine wr (by simp [hc, e1, e2, e3, v1, h6, e4, e5, e6, e7, e8, h0']; with_reducible rfl) ?_ | refine wq (by simp [hc, e1, e2, e3, v1, h6, e4, e5, e6, e7, e8, h0']; with_reducible rfl) ?_ | refine wt (by simpa [hc, e1, e2, e3, v1, h6, e4, e5, e6, e7, e8, h0']) ?_ | refine wf (by simpa [hc, e1, e2, e3, v1, h6, e4, e5, e6, e7, e8, h0']) ?_ | refine xt (by simpa [hc, e1, e2, e3, v1, h6, e4, e5, e6, e7, e8, h0']) ?_ | refine xf (by simpa [hc, e1, e2, e3, v1, h6, e4, e5, e6, e7, e8, h0']) ?_ | apply wp_bs | apply wp_b | refine wp_sr ?_ | refine wp_sx ?_ | refine wp_ret' ?_ | refine wp_skip' ?_ | refine wp_exit' ?_)
    simp [if_laws_FnCountRealizations, h0]

end Go.Idl

namespace Go.Idl

theorem len_sub {α : Type} [DecidableEq α] : ∀ {l k : List α}, l.Nodup → (∀ x ∈ l, x ∈ k) → l.length ≤ k.length
  | [], _, _, _ => by simp
  | a :: l, k, hn, hs => by
    have hn' := List.nodup_cons.1 hn
    have h1 := len_sub (l := l) (k := k.erase a) hn'.2 (fun x hx => (List.mem_erase_of_ne (fun h => hn'.1 (by rw [← h]; exact hx))).2 (hs x (by simp [hx])))
    have h2 := List.length_erase_of_mem (hs a (by simp))
    have h3 : 0 < k.length := List.length_pos_of_mem (hs a (by simp))
    simp only [List.length_cons]; omega

theorem len_inj {α β : Type} [DecidableEq β] {l : List α} {k : List β} (f : α → β) (hn : l.Nodup) (hi : ∀ x ∈ l, ∀ y ∈ l, f x = f y → x = y) (hf : ∀ x ∈ l, f x ∈ k) : l.length ≤ k.length := by
  have h1 : (l.map f).Nodup := by
    rw [List.Nodup, List.pairwise_map]
    exact List.Pairwise.imp_of_mem (fun ha hb h hab => h (hi _ ha _ hb hab)) hn
  have := len_sub h1 (fun y hy => by obtain ⟨x, hx, rfl⟩ := List.mem_map.1 hy; exact hf x hx)
  simpa using this

theorem subs_nodup {N : Nat} : ∀ (r : List (Int × Int)) (left : List Int) (ch : List (Int × Int)), (∀ e ∈ r, 0 ≤ e.1 ∧ e.1 < e.2 ∧ e.2 < N) → left.length = N → r.Nodup → (subs r left ch).Nodup
  | [], left, ch, _, _, _ => by rw [subs]; split <;> simp
  | e :: r, left, ch, hr, hl, hn => by
    have hn' := List.nodup_cons.1 hn
    have hr' : ∀ x ∈ r, 0 ≤ x.1 ∧ x.1 < x.2 ∧ x.2 < N := fun x hx => hr x (by simp [hx])
    rw [subs]
    refine List.nodup_append.2 ⟨?_, subs_nodup r left ch hr' hl hn'.2, ?_⟩
    · split
      · exact subs_nodup r _ _ hr' (by simp [decAt, hl]) hn'.2
      · exact .nil
    · intro g hg g2 hg2 hgg
      subst hgg
      split at hg
      · obtain ⟨s1, -, h1, -⟩ := (mem_subs r _ _ g hr' (by simp [decAt, hl])).1 hg
        obtain ⟨s2, hs2, h2, -⟩ := (mem_subs r _ _ g hr' hl).1 hg2
        rw [h1, List.append_assoc] at h2
        have h3 := List.append_cancel_left h2
        exact hn'.1 (hs2.mem (by rw [← h3]; simp))
      · cases hg

theorem reals_nodup (d : List Int) : (reals d).Nodup := subs_nodup _ _ _ (fun _ he => mem_prs.1 he) rfl (pw_nodup (prs_pw _))

theorem compM_twice {n : Nat} {es : List (Int × Int)} (h : vGraph n es = true) : compM n (compM n es) = es := by
  conv => rhs; rw [vG_filter h]
  refine List.filter_congr fun e he => ?_
  rw [hasM_mem he, compM]
  by_cases hm : e ∈ es
  · have : e ∉ (prs n).filter fun e => !hasM es e.1 e.2 := fun h2 => by
      have := (List.mem_filter.1 h2).2
      rw [hasM_mem he] at this
      simp [hm] at this
    simp [hm, this]
  · have : e ∈ (prs n).filter fun e => !hasM es e.1 e.2 := List.mem_filter.2 ⟨he, by rw [hasM_mem he]; simp [hm]⟩
    simp [hm, this]

theorem comp_len (d : List Int) : (comp d).length = d.length := by simp [comp]

theorem reals_compI {d : List Int} (h7 : d.length ≤ 7) : (reals d).length ≤ (reals (comp d)).length := by
  refine len_inj (compM d.length) (reals_nodup d) (fun x hx y hy h => ?_) fun g hg => ?_
  · rw [← compM_twice ((mem_reals h7 x).1 hx).1, h, compM_twice ((mem_reals h7 y).1 hy).1]
  · obtain ⟨h1, h2⟩ := (mem_reals h7 g).1 hg
    refine (mem_reals (by rw [comp_len]; exact h7) _).2 ?_
    rw [comp_len]
    exact ⟨compM_vG h7 g, by rw [degs_compM h1, h2]⟩

theorem reals_comp {d : List Int} (h7 : d.length ≤ 7) : (reals (comp d)).length = (reals d).length := by
  have h1 := reals_compI h7
  have h2 := reals_compI (d := comp d) (by rw [comp_len]; exact h7)
  rw [comp_twice] at h2
  omega

/-- A graph with its vertices renamed. -/
def rel (n : Nat) (σ : Nat → Nat) (g : List (Int × Int)) : List (Int × Int) := (prs n).filter fun e => decide (mk (σ e.1.toNat) (σ e.2.toNat) ∈ g)

theorem mk_nat {n : Nat} {e : Int × Int} (he : e ∈ prs n) : mk e.1.toNat e.2.toNat = e := by
  have := mem_prs.1 he
  exact Prod.ext (by simp only [mk]; omega) (by simp only [mk]; omega)

theorem rel_deg {n : Nat} (hn : n ≤ 7) {σ : Nat → Nat} (hσ : ∀ u, u < n → σ u < n) (hi : ∀ u v, u < n → v < n → (σ u = σ v ↔ u = v)) (hp : ((List.range n).map σ).Perm (List.range n)) {g : List (Int × Int)} (hg : vGraph n g = true) {v : Nat} (hv : v < n) :
    deg (rel n σ g) v = deg g (σ v) := by
  conv => rhs; rw [vG_filter hg]
  rw [rel, deg_filter hn _ hv, deg_filter hn _ (hσ v hv)]
  conv => rhs; rw [← S_perm hp, S_map]
  refine S_congr fun u hu => ?_
  have hu := List.mem_range.1 hu
  have hm : mk (σ (mk u v).1.toNat) (σ (mk u v).2.toNat) = mk (σ u) (σ v) := by
    rcases Nat.le_total u v with h | h
    · rw [show (mk u v).1.toNat = u by simp only [mk]; omega, show (mk u v).2.toNat = v by simp only [mk]; omega]
    · rw [show (mk u v).1.toNat = v by simp only [mk]; omega, show (mk u v).2.toNat = u by simp only [mk]; omega, mk_comm]
  rw [hm]
  exact ite_iff (hi u v hu hv).symm _ _

theorem rel_rel {n : Nat} {σ τ : Nat → Nat} (hτ : ∀ u, u < n → τ u < n) (hi : ∀ u v, u < n → v < n → (τ u = τ v ↔ u = v)) (hst : ∀ u, u < n → σ (τ u) = u) {g : List (Int × Int)} (hg : vGraph n g = true) :
    rel n τ (rel n σ g) = g := by
  conv => rhs; rw [vG_filter hg]
  refine List.filter_congr fun e he => ?_
  have hb := mem_prs.1 he
  obtain ⟨a, ha⟩ := Int.eq_ofNat_of_zero_le (show 0 ≤ e.1 by omega)
  obtain ⟨b, hb2⟩ := Int.eq_ofNat_of_zero_le (show 0 ≤ e.2 by omega)
  have he2 := mk_nat he
  rw [ha, hb2, Int.toNat_natCast, Int.toNat_natCast] at he2 ⊢
  have han : a < n := by omega
  have hbn : b < n := by omega
  have hm : mk (τ a) (τ b) ∈ prs n := mk_mem (hτ a han) (hτ b hbn) (fun h => by have := (hi a b han hbn).1 h; omega)
  rw [decide_eq_decide, rel, List.mem_filter, decide_eq_true_eq]
  have hm2 : mk (σ (mk (τ a) (τ b)).1.toNat) (σ (mk (τ a) (τ b)).2.toNat) = e := by
    rcases Nat.le_total (τ a) (τ b) with h | h
    · rw [show (mk (τ a) (τ b)).1.toNat = τ a by simp only [mk]; omega, show (mk (τ a) (τ b)).2.toNat = τ b by simp only [mk]; omega, hst a han, hst b hbn, he2]
    · rw [show (mk (τ a) (τ b)).1.toNat = τ b by simp only [mk]; omega, show (mk (τ a) (τ b)).2.toNat = τ a by simp only [mk]; omega, hst a han, hst b hbn, mk_comm, he2]
  rw [hm2]
  exact ⟨fun h => h.2, fun h => ⟨hm, h⟩⟩

theorem reals_rel {d f : List Int} (h7 : d.length ≤ 7) (hl : f.length = d.length) {σ τ : Nat → Nat} (hσ : ∀ u, u < d.length → σ u < d.length) (hτ : ∀ u, u < d.length → τ u < d.length)
    (hst : ∀ u, u < d.length → σ (τ u) = u) (hts : ∀ u, u < d.length → τ (σ u) = u) (hp : ((List.range d.length).map σ).Perm (List.range d.length)) (hd : ∀ u, u < d.length → f.getD u 0 = d.getD (σ u) 0) :
    (reals d).length ≤ (reals f).length := by
  have hiσ : ∀ u v, u < d.length → v < d.length → (σ u = σ v ↔ u = v) := fun u v hu hv => ⟨fun h => by rw [← hts u hu, h, hts v hv], fun h => by rw [h]⟩
  have hiτ : ∀ u v, u < d.length → v < d.length → (τ u = τ v ↔ u = v) := fun u v hu hv => ⟨fun h => by rw [← hst u hu, h, hst v hv], fun h => by rw [h]⟩
  refine len_inj (rel d.length σ) (reals_nodup d) (fun x hx y hy h => ?_) fun g hg => ?_
  · rw [← rel_rel hτ hiτ hst ((mem_reals h7 x).1 hx).1, h, rel_rel hτ hiτ hst ((mem_reals h7 y).1 hy).1]
  · obtain ⟨h1, h2⟩ := (mem_reals h7 g).1 hg
    have hv : vGraph d.length (rel d.length σ g) = true := filter_vG h7 _
    refine (mem_reals (by omega) _).2 ?_
    rw [hl]
    refine ⟨hv, (deg_degs (vG_sub hv) hl).1 fun v hv => ?_⟩
    rw [rel_deg h7 hσ hiσ hp h1 hv, hd v hv]
    exact (deg_degs (vG_sub h1) rfl).2 h2 _ (hσ v hv)

theorem reals_fall {d : List Int} (h7 : d.length ≤ 7) : (reals (fall d)).length = (reals d).length := by
  obtain ⟨n, hn⟩ : ∃ n, n = d.length := ⟨_, rfl⟩
  have hd : d = (List.range n).map fun v => d.getD v 0 := by
    refine List.ext_getElem (by simp [hn]) fun i k1 k2 => ?_
    simp [List.getD_eq_getElem?_getD, List.getElem?_eq_getElem k1]
  obtain ⟨π, hπ, hfp⟩ := perm_map_inv (f := fun v => d.getD v 0) (fall_perm d) hd
  have hπn : π.Nodup := hπ.nodup_iff.2 List.nodup_range
  have hπl : π.length = n := by rw [hπ.length_eq, List.length_range]
  have hσ : ∀ v, v < n → π.idxOf v < n := fun v hv => by
    have hm : v ∈ π := hπ.mem_iff.2 (List.mem_range.2 hv)
    have := List.idxOf_lt_length_of_mem hm
    omega
  have hτσ : ∀ v, v < n → π.getD (π.idxOf v) 0 = v := fun v hv => by
    have hm : v ∈ π := hπ.mem_iff.2 (List.mem_range.2 hv)
    have := List.idxOf_lt_length_of_mem hm
    rw [List.getD_eq_getElem?_getD, List.getElem?_eq_getElem this, List.getElem_idxOf]; rfl
  have hτ : ∀ i, i < n → π.getD i 0 < n := fun i hi => by
    rw [List.getD_eq_getElem?_getD, List.getElem?_eq_getElem (by omega)]
    exact List.mem_range.1 (hπ.mem_iff.1 (List.getElem_mem _))
  have hστ : ∀ i, i < n → π.idxOf (π.getD i 0) = i := fun i hi => by
    rw [List.getD_eq_getElem?_getD, List.getElem?_eq_getElem (by omega)]
    exact hπn.idxOf_getElem i (by omega)
  have hp1 : ((List.range n).map (π.getD · 0)).Perm (List.range n) := by
    have : (List.range n).map (π.getD · 0) = π := by
      refine List.ext_getElem (by simp [hπl]) fun i k1 k2 => ?_
      simp [List.getD_eq_getElem?_getD, List.getElem?_eq_getElem k2]
    rw [this]; exact hπ
  have hp2 : ((List.range n).map (π.idxOf ·)).Perm (List.range n) := by
    have hmap : π.map (π.idxOf ·) = List.range n := by
      refine List.ext_getElem (by simp [hπl]) fun i k1 k2 => ?_
      rw [List.getElem_map, List.getElem_range]
      exact hπn.idxOf_getElem i (by simpa using k1)
    have := hπ.symm.map (π.idxOf ·)
    rwa [hmap] at this
  have hf : ∀ i, i < n → (fall d).getD i 0 = d.getD (π.getD i 0) 0 := fun i hi => by
    rw [hfp, List.getD_eq_getElem?_getD, List.getElem?_map, List.getD_eq_getElem?_getD (l := π), List.getElem?_eq_getElem (by omega : i < π.length)]; rfl
  have hfl := fall_len d
  have a1 := reals_rel (d := d) (f := fall d) h7 hfl (σ := (π.getD · 0)) (τ := (π.idxOf ·)) (by rw [← hn]; exact hτ) (by rw [← hn]; exact hσ) (by rw [← hn]; exact hτσ) (by rw [← hn]; exact hστ) (by rw [← hn]; exact hp1) (by rw [← hn]; exact hf)
  have a2 := reals_rel (d := fall d) (f := d) (by omega) hfl.symm (σ := (π.idxOf ·)) (τ := (π.getD · 0)) (by rw [hfl, ← hn]; exact hσ) (by rw [hfl, ← hn]; exact hτ) (by rw [hfl, ← hn]; exact hστ) (by rw [hfl, ← hn]; exact hτσ) (by rw [hfl, ← hn]; exact hp2) (fun i hi => by
    rw [hfl, ← hn] at hi
    rw [hf _ (hσ i hi), hτσ i hi])
  omega

theorem reals_some {d : List Int} (h7 : d.length ≤ 7) : graphic d = !(reals d).isEmpty := by
  rw [Bool.eq_iff_iff, graphic_iff_real (by omega)]
  constructor
  · rintro ⟨es, h1, h2⟩
    have := (mem_reals (by omega) es).2 ⟨h1, h2⟩
    cases hr : reals d with
    | nil => rw [hr] at this; simp at this
    | cons _ _ => rfl
  · intro h
    cases hr : reals d with
    | nil => rw [hr] at h; cases h
    | cons g r => exact ⟨g, (mem_reals (by omega) g).1 (by rw [hr]; simp)⟩

theorem insE_end {e : Int × Int} : ∀ {es : List (Int × Int)}, (∀ x ∈ es, below x e = true) → insE e es = es ++ [e]
  | [], _ => rfl
  | x :: es, h => by rw [insE, if_pos (h x (by simp)), insE_end fun y hy => h y (by simp [hy])]; rfl

theorem sum_zero : ∀ {l : List Int}, (∀ x ∈ l, 0 ≤ x) → (l.sum = 0 ↔ l.all (fun x => decide (x = 0)) = true)
  | [], _ => by simp
  | x :: l, h => by
    have h1 := h x (by simp)
    have h2 : 0 ≤ l.sum := by
      have : ∀ {l : List Int}, (∀ x ∈ l, 0 ≤ x) → 0 ≤ l.sum := by
        intro l
        induction l with
        | nil => intro _; simp
        | cons y l ih => intro h; have := ih fun z hz => h z (by simp [hz]); have := h y (by simp); simp only [List.sum_cons]; omega
      exact this fun y hy => h y (by simp [hy])
    rw [List.sum_cons, List.all_cons, Bool.and_eq_true, ← sum_zero fun y hy => h y (by simp [hy]), decide_eq_true_eq]
    omega

theorem srS_subs {n : Nat} : ∀ (r : List (Int × Int)) (left : List Int) (es : List (Int × Int)), PW r → (∀ e ∈ r, e ∈ prs n) → left.length = n → (∀ x ∈ left, 0 ≤ x) → (∀ x ∈ es, ∀ e ∈ r, below x e = true) →
    srS n es left r = subs r left es
  | [], left, es, _, _, _, hb, _ => by rw [srS, subs]; exact ite_iff (sum_zero hb) _ _
  | e :: r, left, es, hp, hr, hl, hb, hes => by
    have hp' := List.pairwise_cons.1 hp
    have he := mem_prs.1 (hr e (by simp))
    have hr' : ∀ x ∈ r, x ∈ prs n := fun x hx => hr x (by simp [hx])
    have hes' : ∀ x ∈ es, ∀ y ∈ r, below x y = true := fun x hx y hy => hes x hx y (by simp [hy])
    have h2 := srS_subs r left es hp'.2 hr' hl hb hes'
    rw [srS, subs, insE_end fun x hx => hes x hx e (by simp)]
    congr 1
    · split
      · rename_i hq
        refine srS_subs r _ _ hp'.2 hr' (by simp [decAt, hl]) (fun x hx => ?_) fun x hx y hy => ?_
        · obtain ⟨i, hi, rfl⟩ := List.mem_iff_getElem.1 hx
          have hi2 : i < left.length := by simpa [decAt] using hi
          have g1 := decAt_get (o := decAt left e.1.toNat) (i := e.2.toNat) (v := i) (by simpa [decAt] using hi2)
          have g2 := decAt_get (o := left) (i := e.1.toNat) (v := i) hi2
          rw [List.getD_eq_getElem?_getD, List.getElem?_eq_getElem hi] at g1
          have g3 := hb left[i] (List.getElem_mem hi2)
          have g4 : left.getD i 0 = left[i] := by rw [List.getD_eq_getElem?_getD, List.getElem?_eq_getElem hi2]; rfl
          simp only [Option.getD_some] at g1
          rw [g1, g2, g4]
          by_cases k1 : e.1.toNat = i
          · rw [k1] at hq
            have : ¬ e.2.toNat = i := by omega
            rw [if_pos k1, if_neg this]; omega
          · by_cases k2 : e.2.toNat = i
            · rw [k2] at hq
              rw [if_neg k1, if_pos k2]; omega
            · rw [if_neg k1, if_neg k2]; omega
        · rcases List.mem_append.1 hx with hx | hx
          · exact hes' x hx y hy
          · simp at hx; subst hx; exact hp'.1 y hy
      · rfl
    · by_cases hq : e.2 + 1 < n ∨ left.getD e.1.toNat 0 = 0
      · rw [if_pos hq, h2]
      · rw [if_neg hq]
        cases hs : subs r left es with
        | nil => rfl
        | cons g gl =>
          exfalso
          have hg : g ∈ subs r left es := by rw [hs]; simp
          obtain ⟨s, hsr, -, hd⟩ := (mem_subs r left es g (fun x hx => mem_prs.1 (hr' x hx)) hl).1 hg
          have h3 := hd e.1.toNat (by omega)
          have h4 : deg s e.1.toNat = 0 := by
            rw [deg, S_congr (g := fun _ => 0), S_zero]
            intro x hx
            have hx1 := hp'.1 x (hsr.mem hx)
            have hx2 := mem_prs.1 (hr' x (hsr.mem hx))
            rw [below_iff] at hx1
            rw [inc, if_neg (by omega), if_neg (by omega)]; rfl
          omega

theorem srS_reals {d : List Int} (hv : valid d = true) : srS d.length [] d (prs d.length) = reals d :=
  srS_subs _ _ _ (prs_pw _) (fun _ h => h) rfl (fun x hx => (valid_mem hv x hx).1) (by simp)

theorem cntLaw : ∀ d, valid d = true → CntLaw d := fun d hv => by
  have h7 := (valid_few hv).1
  refine ⟨by rw [srS_reals hv], reals_comp h7, reals_fall h7, ?_⟩
  rw [reals_some h7]
  cases reals d <;> simp

end Go.Idl

