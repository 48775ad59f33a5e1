/- Part 6 of a proof by an ideal interpreter of the code: its definitions and lemmas. Conditions: none. -/
import Derived.KernelRfl
import Derived.Test.YtelicgkafbdboaaA5
set_option linter.all false
set_option linter.unusedVariables false
set_option linter.unusedSimpArgs false
namespace Go.Idl

open Go

/-- The degrees of the split graph of a matrix. -/
def joined (r c : List Int) : List Int := (r.map fun x : Int => x + (r.length : Int) - 1) ++ c

def BigLaw (r c : List Int) : Bool := (graphic (joined r c) == noneNeg (gale r c)) && (!noneNeg (gale r c) || decide (splitt (joined r c) = 0))

theorem ev_FnIsBigraphicSplit (law : ∀ r c, vMar r c = true → r.length + c.length ≤ 7 → r.sum = c.sum → BigLaw r c = true) (code : List Int) (c : Bool) (h : ∀ x ∈ code, 0 ≤ x ∧ x ≤ 255) :
    Ev tb l_laws_FnIsBigraphicSplit [] [.lst 1 (bytes code) c] [] ⟨Bo true, [], [], []⟩ := by
  by_cases hc : (1048576 : Int) < code.length
  · refine call_of_wp tb_laws_FnIsBigraphicSplit rfl ?_
    repeat (first | refine wp_as ?_ | refine wp_ss ?_ | refine wp_rs (by simp [hc]; with_reducible rfl) (by simp; with_reducible rfl) ?_ | refine wp_reg (by simp [hc]; with_reducible rfl) (by simp; with_reducible rfl) ?_ | (refine wp_ct (t := true) ?_ (fun _ => ?_) (fun hh => nomatch hh); focus (simp [hc]; done)) | (refine wp_ct (t := false) ?_ (fun hh => nomatch hh) (fun _ => ?_); focus (simp [hc]; done)) | (refine wp_c (t := true) ?_ (fun _ => ?_) (fun hh => nomatch hh); focus (simp [hc]; done)) | (refine wp_c (t := false) ?_ (fun hh => nomatch hh) (fun _ => ?_); focus (simp [hc]; done)) | refine wp_bs ?_ | refine wp_b ?_ | refine wp_sr ?_ | refine wp_sx ?_ | refine wp_ret' ?_ | refine wp_skip' ?_ | refine wp_exit' ?_)
    simp [if_laws_FnIsBigraphicSplit]
  obtain ⟨r, k, hr, hk, e1⟩ := ev_DrawIsBigraphic code c h (by omega)
  have e2 := ev_lim (ev_IsBigraphic r k false false (by omega) (by omega))
  have e3 := ev_lim (ev_spec_IsBigraphic r k false false (by omega) (by omega))
  have e4 := ev_lim (ev_ValidMargins r k false false (by omega) (by omega))
  cases hv : vMar r k with
  | false =>
    generalize bigr r k = b at *
    refine call_of_wp tb_laws_FnIsBigraphicSplit rfl ?_
    repeat (first | refine wp_as ?_ | refine wp_ss ?_ | refine wp_rs (by simp [hc, e1, e2, e3, e4, hv]; with_reducible rfl) (by simp; with_reducible rfl) ?_ | refine wp_reg (by simp [hc, e1, e2, e3, e4, hv]; with_reducible rfl) (by simp; with_reducible rfl) ?_ | (refine wp_ct (t := true) ?_ (fun _ => ?_) (fun hh => nomatch hh); focus (simp [hc, e1, e2, e3, e4, hv]; done)) | (refine wp_ct (t := false) ?_ (fun hh => nomatch hh) (fun _ => ?_); focus (simp [hc, e1, e2, e3, e4, hv]; done)) | (refine wp_c (t := true) ?_ (fun _ => ?_) (fun hh => nomatch hh); focus (simp [hc, e1, e2, e3, e4, hv]; done)) | (refine wp_c (t := false) ?_ (fun hh => nomatch hh) (fun _ => ?_); focus (simp [hc, e1, e2, e3, e4, hv]; done)) | refine wp_bs ?_ | refine wp_b ?_ | refine wp_sr ?_ | refine wp_sx ?_ | refine wp_ret' ?_ | refine wp_skip' ?_ | refine wp_exit' ?_)
    simp [if_laws_FnIsBigraphicSplit]
  | true =>
  have w1 : IntKind.i64.wrap ((r.length : Int) + k.length) = (r.length : Int) + k.length := wrap64 (by omega) (by omega)
  by_cases h7 : (7 : Int) < (r.length : Int) + k.length
  · generalize bigr r k = b at *
    refine call_of_wp tb_laws_FnIsBigraphicSplit rfl ?_
    repeat (first | refine wp_as ?_ | refine wp_ss ?_ | refine wp_rs (by simp [hc, e1, e2, e3, e4, hv, w1, h7]; with_reducible rfl) (by simp; with_reducible rfl) ?_ | refine wp_reg (by simp [hc, e1, e2, e3, e4, hv, w1, h7]; with_reducible rfl) (by simp; with_reducible rfl) ?_ | (refine wp_ct (t := true) ?_ (fun _ => ?_) (fun hh => nomatch hh); focus (simp [hc, e1, e2, e3, e4, hv, w1, h7]; done)) | (refine wp_ct (t := false) ?_ (fun hh => nomatch hh) (fun _ => ?_); focus (simp [hc, e1, e2, e3, e4, hv, w1, h7]; done)) | (refine wp_c (t := true) ?_ (fun _ => ?_) (fun hh => nomatch hh); focus (simp [hc, e1, e2, e3, e4, hv, w1, h7]; done)) | (refine wp_c (t := false) ?_ (fun hh => nomatch hh) (fun _ => ?_); focus (simp [hc, e1, e2, e3, e4, hv, w1, h7]; done)) | refine wp_bs ?_ | refine wp_b ?_ | refine wp_sr ?_ | refine wp_sx ?_ | refine wp_ret' ?_ | refine wp_skip' ?_ | refine wp_exit' ?_)
    simp [if_laws_FnIsBigraphicSplit]
  obtain ⟨fr, fk, hr5, hk5⟩ := vMar_few hv
  have e5 := ev_lim (ev_total r false fr.small)
  have e6 := ev_lim (ev_total k false fk.small)
  by_cases hs : r.sum = k.sum
  rotate_left
  · generalize bigr r k = b at *
    refine call_of_wp tb_laws_FnIsBigraphicSplit rfl ?_
    repeat (first | refine wp_as ?_ | refine wp_ss ?_ | refine wp_rs (by simp [hc, e1, e2, e3, e4, hv, w1, h7, e5, e6, hs]; with_reducible rfl) (by simp; with_reducible rfl) ?_ | refine wp_reg (by simp [hc, e1, e2, e3, e4, hv, w1, h7, e5, e6, hs]; with_reducible rfl) (by simp; with_reducible rfl) ?_ | (refine wp_ct (t := true) ?_ (fun _ => ?_) (fun hh => nomatch hh); focus (simp [hc, e1, e2, e3, e4, hv, w1, h7, e5, e6, hs]; done)) | (refine wp_ct (t := false) ?_ (fun hh => nomatch hh) (fun _ => ?_); focus (simp [hc, e1, e2, e3, e4, hv, w1, h7, e5, e6, hs]; done)) | (refine wp_c (t := true) ?_ (fun _ => ?_) (fun hh => nomatch hh); focus (simp [hc, e1, e2, e3, e4, hv, w1, h7, e5, e6, hs]; done)) | (refine wp_c (t := false) ?_ (fun hh => nomatch hh) (fun _ => ?_); focus (simp [hc, e1, e2, e3, e4, hv, w1, h7, e5, e6, hs]; done)) | refine wp_bs ?_ | refine wp_b ?_ | refine wp_sr ?_ | refine wp_sx ?_ | refine wp_ret' ?_ | refine wp_skip' ?_ | refine wp_exit' ?_)
    simp [if_laws_FnIsBigraphicSplit]
  have hlaw := law r k hv (by omega) hs
  have hb : bigr r k = noneNeg (gale r k) := by simp [bigr, hv, hs]
  rw [hb] at e2 e3
  simp only [BigLaw, Bool.and_eq_true, beq_iff_eq, Bool.or_eq_true, Bool.not_eq_true'] at hlaw
  obtain ⟨hl1, hl2⟩ := hlaw
  have e7 := ev_lim (ev_IsGraphic (joined r k) false (by simp [joined]; omega))
  have e8 := ev_lim (ev_IsSplit (joined r k) false (by simp [joined]; omega))
  rw [hl1] at e7
  generalize noneNeg (gale r k) = b at *
  have loop : ∀ (m i : Nat), i + m = r.length → wp tb (.loop ic_laws_FnIsBigraphicSplit_l12) { T := [(3, O r), (4, O k), (5, Bo b), (6, O ((r.take i).map fun x : Int => x + (r.length : Int) - 1)), (7, I i)], loc := [], M := [] }
      (fun ex st => ex = .exit 0 ∧ st = { T := [(3, O r), (4, O k), (5, Bo b), (6, O (r.map fun x : Int => x + (r.length : Int) - 1)), (7, I r.length), (54, Bo false)], loc := [], M := [] }) := by
    intro m
    induction m with
    | zero =>
      intro i hi
      have h3 : i = r.length := hi
      subst h3
      refine wp_loop ?_
      repeat (first | refine wp_as ?_ | refine wp_ss ?_ | refine wp_rs (by simp; with_reducible rfl) (by simp; with_reducible rfl) ?_ | refine wp_reg (by simp; with_reducible rfl) (by simp; with_reducible rfl) ?_ | (refine wp_ct (t := true) ?_ (fun _ => ?_) (fun hh => nomatch hh); focus (simp; done)) | (refine wp_ct (t := false) ?_ (fun hh => nomatch hh) (fun _ => ?_); focus (simp; done)) | (refine wp_c (t := true) ?_ (fun _ => ?_) (fun hh => nomatch hh); focus (simp; done)) | (refine wp_c (t := false) ?_ (fun hh => nomatch hh) (fun _ => ?_); focus (simp; done)) | refine wp_bs ?_ | refine wp_b ?_ | refine wp_sr ?_ | refine wp_sx ?_ | refine wp_ret' ?_ | refine wp_skip' ?_ | refine wp_exit' ?_)
      simp
    | succ m ih =>
      intro i hi
      have hi2 : i < r.length := by omega
      have hx := fr.2 _ (List.getElem_mem hi2)
      have w2 : IntKind.i64.wrap ((i : Int) + 1) = ((i + 1 : Nat) : Int) := wrapS (by omega)
      have w3 : IntKind.i64.wrap (r[i] + (r.length : Int)) = r[i] + r.length := wrap64 (by omega) (by omega)
      have w4 : IntKind.i64.wrap (r[i] + (r.length : Int) - 1) = r[i] + r.length - 1 := wrap64 (by omega) (by omega)
      have hih := ih (i + 1) (by omega)
      rw [List.take_succ_eq_append_getElem hi2, List.map_append] at hih
      have hA : ((r.take i).map fun x => x + (r.length : Int) - 1).length = i := by simp; omega
      generalize ((r.take i).map fun x => x + (r.length : Int) - 1) = A at *
      have hT : A.take i = A := List.take_of_length_le (by omega)
      have hi5 : i + 1 ≤ 274877906944 := by omega
      have hi6 : i ≤ 274877906943 := by omega
      refine wp_loop ?_
      repeat (first | refine wp_as ?_ | refine wp_ss ?_ | refine wp_rs (by simp [hi2, w2, w3, w4, hA, hT, hi5, hi6]; with_reducible rfl) (by simp; with_reducible rfl) ?_ | refine wp_reg (by simp [hi2, w2, w3, w4, hA, hT, hi5, hi6]; with_reducible rfl) (by simp; with_reducible rfl) ?_ | (refine wp_ct (t := true) ?_ (fun _ => ?_) (fun hh => nomatch hh); focus (simp [hi2, w2, w3, w4, hA, hT, hi5, hi6]; done)) | (refine wp_ct (t := false) ?_ (fun hh => nomatch hh) (fun _ => ?_); focus (simp [hi2, w2, w3, w4, hA, hT, hi5, hi6]; done)) | (refine wp_c (t := true) ?_ (fun _ => ?_) (fun hh => nomatch hh); focus (simp [hi2, w2, w3, w4, hA, hT, hi5, hi6]; done)) | (refine wp_c (t := false) ?_ (fun hh => nomatch hh) (fun _ => ?_); focus (simp [hi2, w2, w3, w4, hA, hT, hi5, hi6]; done)) | refine wp_bs ?_ | refine wp_b ?_ | refine wp_sr ?_ | refine wp_sx ?_ | refine wp_ret' ?_ | refine wp_skip' ?_ | refine wp_exit' ?_)
      exact hih
  refine call_of_wp tb_laws_FnIsBigraphicSplit rfl ?_
  repeat (first | refine wp_as ?_ | refine wp_ss ?_ | refine wp_rs (by simp [hc, e1, e2, e3, e4, hv, w1, h7, e5, e6, hs]; with_reducible rfl) (by simp; with_reducible rfl) ?_ | refine wp_reg (by simp [hc, e1, e2, e3, e4, hv, w1, h7, e5, e6, hs]; with_reducible rfl) (by simp; with_reducible rfl) ?_ | (refine wp_ct (t := true) ?_ (fun _ => ?_) (fun hh => nomatch hh); focus (simp [hc, e1, e2, e3, e4, hv, w1, h7, e5, e6, hs]; done)) | (refine wp_ct (t := false) ?_ (fun hh => nomatch hh) (fun _ => ?_); focus (simp [hc, e1, e2, e3, e4, hv, w1, h7, e5, e6, hs]; done)) | (refine wp_c (t := true) ?_ (fun _ => ?_) (fun hh => nomatch hh); focus (simp [hc, e1, e2, e3, e4, hv, w1, h7, e5, e6, hs]; done)) | (refine wp_c (t := false) ?_ (fun hh => nomatch hh) (fun _ => ?_); focus (simp [hc, e1, e2, e3, e4, hv, w1, h7, e5, e6, hs]; done)) | refine wp_bs ?_ | refine wp_b ?_ | refine wp_sr ?_ | refine wp_sx ?_ | refine wp_ret' ?_ | refine wp_skip' ?_ | refine wp_exit' ?_)
  refine wp_imp (loop r.length 0 (by simp)) ?_
  rintro ex st ⟨rfl, rfl⟩
  try simp only [if_true]
  have hB : (r.map fun x => x + (r.length : Int) - 1).length = r.length := by simp
  rw [joined] at e7 e8 hl1 hl2
  generalize (r.map fun x => x + (r.length : Int) - 1) = B at *
  have hm : r.length + k.length ≤ 274877906944 := by omega
  have hT : B.take r.length = B := List.take_of_length_le (by omega)
  have hT2 : (B ++ k).take (r.length + k.length) = B ++ k := List.take_of_length_le (by simp; omega)
  cases b with
  | false =>
    repeat (first | refine wp_as ?_ | refine wp_ss ?_ | refine wp_rs (by simp [e7, e8, hB, hT, hT2, hm]; with_reducible rfl) (by simp; with_reducible rfl) ?_ | refine wp_reg (by simp [e7, e8, hB, hT, hT2, hm]; with_reducible rfl) (by simp; with_reducible rfl) ?_ | (refine wp_ct (t := true) ?_ (fun _ => ?_) (fun hh => nomatch hh); focus (simp [e7, e8, hB, hT, hT2, hm]; done)) | (refine wp_ct (t := false) ?_ (fun hh => nomatch hh) (fun _ => ?_); focus (simp [e7, e8, hB, hT, hT2, hm]; done)) | (refine wp_c (t := true) ?_ (fun _ => ?_) (fun hh => nomatch hh); focus (simp [e7, e8, hB, hT, hT2, hm]; done)) | (refine wp_c (t := false) ?_ (fun hh => nomatch hh) (fun _ => ?_); focus (simp [e7, e8, hB, hT, hT2, hm]; done)) | refine wp_bs ?_ | refine wp_b ?_ | refine wp_sr ?_ | refine wp_sx ?_ | refine wp_ret' ?_ | refine wp_skip' ?_ | refine wp_exit' ?_)
    simp [if_laws_FnIsBigraphicSplit]
  | true =>
    have hl3 : splitt (B ++ k) = 0 := by simpa using hl2
    repeat (first | refine wp_as ?_ | refine wp_ss ?_ | refine wp_rs (by simp [e7, e8, hB, hT, hT2, hm, hl3]; with_reducible rfl) (by simp; with_reducible rfl) ?_ | refine wp_reg (by simp [e7, e8, hB, hT, hT2, hm, hl3]; with_reducible rfl) (by simp; with_reducible rfl) ?_ | (refine wp_ct (t := true) ?_ (fun _ => ?_) (fun hh => nomatch hh); focus (simp [e7, e8, hB, hT, hT2, hm, hl3]; done)) | (refine wp_ct (t := false) ?_ (fun hh => nomatch hh) (fun _ => ?_); focus (simp [e7, e8, hB, hT, hT2, hm, hl3]; done)) | (refine wp_c (t := true) ?_ (fun _ => ?_) (fun hh => nomatch hh); focus (simp [e7, e8, hB, hT, hT2, hm, hl3]; done)) | (refine wp_c (t := false) ?_ (fun hh => nomatch hh) (fun _ => ?_); focus (simp [e7, e8, hB, hT, hT2, hm, hl3]; done)) | refine wp_bs ?_ | refine wp_b ?_ | refine wp_sr ?_ | refine wp_sx ?_ | refine wp_ret' ?_ | refine wp_skip' ?_ | refine wp_exit' ?_)
    simp [if_laws_FnIsBigraphicSplit]

end Go.Idl

namespace Go.Idl

/-- All falling lists. -/
def allD (p : List Int → Bool) : Nat → Nat → List Int → Bool
  | 0, _, acc => p acc.reverse
  | m + 1, t, acc => (List.range (t + 1)).all fun x => allD p m x ((x : Int) :: acc)

theorem allD_ok (p : List Int → Bool) : ∀ (m t : Nat) (acc l : List Int), allD p m t acc = true → l.length = m → Desc l → (∀ x ∈ l, 0 ≤ x ∧ x ≤ t) → p (acc.reverse ++ l) = true
  | 0, t, acc, l, h, hl, hd, hb => by
    have : l = [] := List.length_eq_zero_iff.1 hl
    subst this
    simpa [allD] using h
  | m + 1, t, acc, l, h, hl, hd, hb => by
    cases l with
    | nil => simp at hl
    | cons x r =>
      have hx := hb x (by simp)
      have hd' := List.pairwise_cons.1 hd
      obtain ⟨k, rfl⟩ := Int.eq_ofNat_of_zero_le hx.1
      simp only [allD, List.all_eq_true, List.mem_range] at h
      have h1 := h k (by omega)
      have := allD_ok p m k ((k : Int) :: acc) r h1 (by simpa using hl) hd'.2 (fun y hy => ⟨(hb y (by simp [hy])).1, hd'.1 y hy⟩)
      simpa using this

def slS (s : List Int) : List Int := (List.range s.length).map fun i => slk s (i + 1)

theorem slacks_S (d : List Int) : slacks d = slS (fall d) := by rw [slacks, slS, fall_len]

end Go.Idl

namespace Go.Idl

def chkB (p : Nat) (r c : List Int) : Bool :=
  !decide (r.sum = c.sum) ||
    (let s := fall ((r.map fun x => x + (p : Int) - 1) ++ c)
     let t := slS s
     let b := (List.range p).all fun i => decide (0 ≤ -((r.take (i + 1)).sum) + (c.map fun x : Int => min x ((i : Int) + 1)).sum)
     (noneNeg t == b) && (!b || decide ((t.getD (durf s - 1) 0).tdiv 2 = 0)))

set_option maxRecDepth 100000 in
theorem chkB_all : (List.range 6).all (fun p => (List.range (8 - p)).all fun q => allD (fun r => allD (chkB p r) q p []) p q []) = true := by kernel_rfl

theorem joined_perm (r c : List Int) : ((fall r).map (fun x => x + (r.length : Int) - 1) ++ fall c).Perm (joined r c) :=
  ((fall_perm r).map _).append (fall_perm c)

theorem joined_sum (m : Int) : ∀ r : List Int, (r.map fun x => x + m - 1).sum = r.sum + r.length * (m - 1)
  | [] => by simp
  | x :: q => by
    rw [List.map_cons, List.sum_cons, joined_sum m q, List.sum_cons, List.length_cons]
    have : ((q.length + 1 : Nat) : Int) * (m - 1) = (q.length : Int) * (m - 1) + (m - 1) := by
      rw [Int.natCast_add, Int.add_mul]; simp
    omega

theorem prod_even (n : Nat) : ((n : Int) * ((n : Int) - 1)) % 2 = 0 := by
  have h : (n : Int) % 2 = 0 ∨ (n : Int) % 2 = 1 := by omega
  rcases h with h | h
  · rw [Int.mul_emod, h]; simp
  · have h2 : ((n : Int) - 1) % 2 = 0 := by omega
    rw [Int.mul_emod, h2]; simp

theorem joined_valid {r c : List Int} (hv : vMar r c = true) (h7 : r.length + c.length ≤ 7) : valid (joined r c) = true := by
  simp only [vMar, sideOk, inAll, Bool.and_eq_true, decide_eq_true_eq, List.all_eq_true] at hv
  obtain ⟨h1, h2, h3, h4⟩ := hv
  simp only [valid, joined, Bool.and_eq_true, decide_eq_true_eq, List.all_eq_true, List.length_append, List.length_map]
  refine ⟨h7, fun x hx => ?_⟩
  rcases List.mem_append.1 hx with hx | hx
  · obtain ⟨y, hy, rfl⟩ := List.mem_map.1 hx
    have := h3 y hy
    omega
  · have := h4 x hx
    omega

theorem bigLaw (r c : List Int) (hv : vMar r c = true) (h7 : r.length + c.length ≤ 7) (hs : r.sum = c.sum) : BigLaw r c = true := by
  have hjv := joined_valid hv h7
  obtain ⟨fr, fc, hr5, hc5⟩ := vMar_few hv
  have hv' := hv
  simp only [vMar, sideOk, inAll, Bool.and_eq_true, decide_eq_true_eq, List.all_eq_true] at hv'
  obtain ⟨-, -, h3, h4⟩ := hv'
  have k1 := List.all_eq_true.1 chkB_all r.length (List.mem_range.2 (by omega))
  have k2 := List.all_eq_true.1 k1 c.length (List.mem_range.2 (by omega))
  have k3 := allD_ok _ r.length c.length [] (fall r) k2 (fall_len r) (fall_desc r) (fun x hx => by have := h3 x (fall_mem.1 hx); omega)
  have k4 := allD_ok _ c.length r.length [] (fall c) k3 (fall_len c) (fall_desc c) (fun x hx => by have := h4 x (fall_mem.1 hx); omega)
  simp only [List.reverse_nil, List.nil_append] at k4
  have hb : ((List.range r.length).all fun i => decide (0 ≤ -(((fall r).take (i + 1)).sum) + ((fall c).map fun x : Int => min x ((i : Int) + 1)).sum)) = noneNeg (gale r c) := by
    rw [noneNeg, gale, mapR, List.all_map]
    congr 1
    funext i
    rw [perm_sum ((fall_perm c).map _)]
    rfl
  have hg : graphic (joined r c) = noneNeg (slS (fall (joined r c))) := by
    rw [graphic, hjv, ← slacks_S]
    have : (joined r c).sum % 2 = 0 := by
      rw [joined, List.sum_append, joined_sum, hs]
      have := prod_even r.length
      omega
    simp [this, noneNeg]
  have hl : (joined r c).length ≠ 0 := by rw [joined, List.length_append, List.length_map]; omega
  simp only [chkB, fall_sum, hs, decide_true, Bool.not_true, Bool.false_or, fall_congr (joined_perm r c), hb] at k4
  simp only [Bool.and_eq_true, beq_iff_eq, Bool.or_eq_true, Bool.not_eq_true', decide_eq_true_eq] at k4
  obtain ⟨k5, k6⟩ := k4
  simp only [BigLaw, Bool.and_eq_true, beq_iff_eq, Bool.or_eq_true, Bool.not_eq_true', decide_eq_true_eq]
  refine ⟨by rw [hg, k5], ?_⟩
  rcases k6 with k6 | k6
  · exact .inl k6
  · by_cases hn : noneNeg (gale r c) = true
    · refine .inr ?_
      rw [splitt, hg, k5, hn]
      simp only [if_true, hl, if_false]
      rw [slacks_S]
      exact k6
    · exact .inl (by simpa using hn)

end Go.Idl

