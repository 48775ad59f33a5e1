/- Part 7 of a proof by an ideal interpreter of the code: its definitions and lemmas. Conditions: none. -/
import Derived.KernelRfl
import Derived.Test.YtfoigkkpkalloaaGreatA6
set_option linter.all false
set_option linter.unusedVariables false
set_option linter.unusedSimpArgs false
namespace Go.Idl

theorem has_srtE (es : List (Int × Int)) (a b : Int) : has (srtE es) a b = has es a b := by
  rw [has, has]; exact (srtE_perm es).any_eq

theorem isE_mm {v i a b : Int} : isE a b (min v i, max v i) = true ↔ (a = v ∧ b = i) ∨ (a = i ∧ b = v) := by
  simp only [isE, Bool.or_eq_true, Bool.and_eq_true, decide_eq_true_eq]
  omega

theorem has_app (es fs : List (Int × Int)) (a b : Int) : has (es ++ fs) a b = (has es a b || has fs a b) := by simp [has]

theorem has_mm {es : List (Int × Int)} {v i : Int} (h : has es v i = false) : (min v i, max v i) ∉ es := fun hm => by
  rw [has, List.any_eq_false] at h
  exact h _ hm (isE_mm.2 (.inl ⟨rfl, rfl⟩))

theorem decAt_get' {o : List Int} {i x : Int} (hi : 0 ≤ i) (hx : 0 ≤ x) (hl : x < o.length) : (decAt o i.toNat).getD x.toNat 0 = o.getD x.toNat 0 - (if x = i then 1 else 0) := by
  rw [decAt_get (by omega)]
  by_cases h : x = i
  · subst h; simp
  · rw [if_neg h, if_neg (by omega)]

theorem iteQ {p q : Prop} [Decidable p] [Decidable q] (h : p ↔ q) : (if p then (1 : Int) else 0) = if q then 1 else 0 := by
  by_cases hp : p
  · rw [if_pos hp, if_pos (h.1 hp)]
  · rw [if_neg hp, if_neg fun k => hp (h.2 k)]

theorem lay_eq {v : Int} {n : Nat} {done : List Int} (hv : 0 ≤ v ∧ v < n) : ∀ (k : Nat) (rest left : List Int) (es : List (Int × Int)), left.length = n → rest.Pairwise (lexR left) → (∀ x ∈ rest, 0 ≤ x ∧ x < n) → (∀ x ∈ left, 0 ≤ x) → es.Nodup →
    (∀ w : Nat, w < n → (((w : Int) ∉ done ∧ has es v w = false) ↔ (w : Int) ∈ rest)) →
    layS v n done k left (srtE es) = if k ≤ rest.length then (layI v (rest.take k) left es).map (fun q => (q.1, srtE q.2)) else none
  | 0, rest, left, es, _, _, _, _, _, _ => by simp [layS, layI]
  | k + 1, [], left, es, _, _, _, _, _, hc => by
    rw [layS]
    have : fmx (fun i => !decide ((i : Int) ∈ done) && !has (srtE es) v i) left n = -1 := fmx_none fun w hw => by
      have : ¬ ((w : Int) ∉ done ∧ has es v w = false) := fun h => by have := (hc w hw).1 h; cases this
      rw [has_srtE]
      cases h1 : has es v w <;> simp [h1] at this ⊢
      exact this
    simp [this]
  | k + 1, i :: r, left, es, hl, hp, hr, hb, hn, hc => by
    rw [layS]
    have hi := hr i (by simp)
    have hm : fmx (fun i => !decide ((i : Int) ∈ done) && !has (srtE es) v i) left n = i := fmx_head hp hr fun w hw => by
      rw [has_srtE, ← hc w hw]
      simp
    simp only [hm]
    have hi0 : ¬ i < 0 := by omega
    have hil : i.toNat < left.length := by omega
    have g : left.getD i.toNat 0 = left[i.toNat] := by simp [List.getD_eq_getElem?_getD, List.getElem?_eq_getElem hil]
    have g0 : 0 ≤ left.getD i.toNat 0 := by rw [g]; exact hb _ (List.getElem_mem _)
    rw [List.length_cons, List.take_succ_cons, layI]
    by_cases hz : left.getD i.toNat 0 = 0
    · rw [if_pos (.inr (by omega)), if_pos hz]; simp
    · rw [if_neg (by omega), if_neg hz]
      have hhas : has es v i = false := by
        have := (hc i.toNat (by omega)).2 (by rw [Int.toNat_of_nonneg hi.1]; simp)
        rw [Int.toNat_of_nonneg hi.1] at this
        exact this.2
      have hne := has_mm hhas
      rw [srtE_snoc hn hne]
      have hp' := List.pairwise_cons.1 hp
      have hri : ∀ x ∈ r, x ≠ i := fun x hx h => by have := hp'.1 x hx; rw [h] at this; exact lexR_irr this
      have ih := lay_eq hv k r (decAt left i.toNat) (es ++ [(min v i, max v i)]) (by simp [decAt, hl]) ?_ (fun x hx => hr x (by simp [hx])) ?_ ?_ ?_ (done := done)
      · rw [ih]
        simp only [Nat.succ_le_succ_iff, Nat.add_le_add_iff_right]
      · refine hp'.2.imp_of_mem fun {a b} ha hb' hab => ?_
        have h1 := hr a (by simp [ha])
        have h2 := hr b (by simp [hb'])
        rw [lexR, decAt_get' hi.1 h1.1 (by omega), decAt_get' hi.1 h2.1 (by omega), if_neg (hri a ha), if_neg (hri b hb')]
        simpa [lexR] using hab
      · intro x hx
        rcases List.mem_or_eq_of_mem_set hx with hx | rfl
        · exact hb x hx
        · omega
      · exact List.nodup_append.2 ⟨hn, by simp, fun a ha b hb => by simp at hb; subst hb; exact fun h => hne (h ▸ ha)⟩
      · intro w hw
        have h1 := hc w hw
        have h2 : has [(min v i, max v i)] v w = true ↔ (w : Int) = i := by
          rw [has, List.any_cons, List.any_nil, Bool.or_false, isE_mm]; omega
        rw [has_app]
        have h3 : (w : Int) ∈ r ↔ (w : Int) ∈ i :: r ∧ (w : Int) ≠ i := by
          constructor
          · exact fun h => ⟨by simp [h], hri _ h⟩
          · rintro ⟨h, h'⟩
            rcases List.mem_cons.1 h with h | h
            · exact absurd h h'
            · exact h
        rw [h3, ← h1]
        cases h4 : has [(min v i, max v i)] v w
        · have : ¬ (w : Int) = i := fun h => by rw [h2.2 h] at h4; cases h4
          simp [this]
        · simp [h2.1 h4]
termination_by k => k

theorem real_eq (n : Nat) : ∀ (m : Nat) (left todo done : List Int) (es : List (Int × Int)), left.length = n → (∀ x ∈ left, 0 ≤ x ∧ x ≤ 1000) → todo.length = m → todo.Pairwise (fun a b : Int => a < b) → (∀ x ∈ todo, 0 ≤ x ∧ x < n) →
    (∀ w : Nat, w < n → ((w : Int) ∉ done ↔ (w : Int) ∈ todo)) → es.Nodup → (∀ a ∈ todo, ∀ b ∈ todo, has es a b = false) →
    realS n m left done (srtE es) = (realI m left todo es).map srtE
  | 0, left, todo, done, es, _, _, _, _, _, _, _, _ => rfl
  | m + 1, left, todo, done, es, hl, hb, htl, htp, htb, hd, hn, hh => by
    rw [realS, realI]
    have hperm := srtC_perm (gtD left) todo []
    cases hs : srtC (gtD left) [] todo with
    | nil => rw [hs] at hperm; have := hperm.length_eq; simp at this; omega
    | cons v r =>
      rw [hs, List.nil_append] at hperm
      have hlex := srtC_lex (left := left) todo [] .nil (by simp) htp
      rw [hs] at hlex
      have hv : v ∈ todo := hperm.mem_iff.1 (by simp)
      have hvb := htb v hv
      have hmx : fmx (fun i => !decide ((i : Int) ∈ done)) left n = v := fmx_head hlex (fun x hx => htb x (hperm.mem_iff.1 hx)) fun w hw => by
        rw [hperm.mem_iff, ← hd w hw]; simp
      simp only [hmx]
      obtain ⟨t2, ht2⟩ : ∃ t2, t2 = todo.filter fun x => !decide (x = v) := ⟨_, rfl⟩
      rw [← ht2]
      have hm2 : ∀ x, x ∈ t2 ↔ x ∈ todo ∧ x ≠ v := fun x => by rw [ht2, List.mem_filter]; simp
      have ht2p : t2.Pairwise (fun a b : Int => a < b) := by rw [ht2]; exact htp.filter _
      have ht2l : t2.length = m := by
        have h1 := filter_len' (fun x => decide (x = v)) todo
        have h2 : (todo.filter fun x => decide (x = v)).length = 1 := by
          have hnd : todo.Nodup := htp.imp fun h => by omega
          have := List.nodup_iff_count.1 hnd v
          have h3 := List.count_pos_iff.2 hv
          rw [← List.countP_eq_length_filter]
          have h4 : todo.countP (fun x => decide (x = v)) = todo.count v := by
            rw [List.count]; exact List.countP_congr fun x _ => by simp
          omega
        rw [← ht2] at h1
        omega
      have hgv : left.getD v.toNat 0 = left[v.toNat]'(by omega) := by simp [List.getD_eq_getElem?_getD, List.getElem?_eq_getElem (show v.toNat < left.length by omega)]
      have hk0 : 0 ≤ left.getD v.toNat 0 := by rw [hgv]; exact (hb _ (List.getElem_mem _)).1
      obtain ⟨k, hk⟩ := Int.eq_ofNat_of_zero_le hk0
      have hp2 := srtC_perm (gtD left) t2 []
      rw [List.nil_append] at hp2
      rw [hk, Int.toNat_natCast]
      have hlay := lay_eq (done := done ++ [v]) hvb k (srtC (gtD left) [] t2) left es hl (srtC_lex _ _ .nil (by simp) ht2p) (fun x hx => htb x ((hm2 x).1 (hp2.mem_iff.1 hx)).1) (fun x hx => (hb x hx).1) hn (fun w hw => by
        rw [hp2.mem_iff, hm2, ← hd w hw]
        constructor
        · rintro ⟨h1, _⟩
          simp only [List.mem_append, List.mem_singleton, not_or] at h1
          exact h1
        · rintro ⟨h1, h2⟩
          exact ⟨by simp [h1, h2], hh v hv _ ((hd w hw).1 h1)⟩)
      rw [hlay, hp2.length_eq, ht2l]
      by_cases hkm : k ≤ m
      · rw [if_pos hkm, if_neg (by omega), topD]
        cases hli : layI v ((srtC (gtD left) [] t2).take k) left es with
        | none => rfl
        | some q =>
          obtain ⟨left', es'⟩ := q
          obtain ⟨k1, k2, k3⟩ := layI_inv v _ _ _ _ _ hli hb
          have htm : ∀ x ∈ (srtC (gtD left) [] t2).take k, x ∈ t2 := fun x hx => hp2.mem_iff.1 (List.mem_of_mem_take hx)
          have htn : ((srtC (gtD left) [] t2).take k).Nodup := (hp2.nodup_iff.2 (ht2p.imp fun h => by omega)).sublist (List.take_sublist _ _)
          refine real_eq n m left' t2 (done ++ [v]) es' (by omega) k2 ht2l ht2p (fun x hx => htb x ((hm2 x).1 hx).1) (fun w hw => ?_) ?_ ?_
          · rw [hm2, ← hd w hw]; simp
          · rw [k3]
            refine List.nodup_append.2 ⟨hn, ?_, ?_⟩
            · rw [List.Nodup, List.pairwise_map]
              refine List.Pairwise.imp_of_mem (fun {i j} hi hj hij he => ?_) htn
              have h1 := ((hm2 i).1 (htm i hi)).2
              have h2 := ((hm2 j).1 (htm j hj)).2
              simp only [Prod.mk.injEq] at he
              omega
            · intro a ha b hb' hab
              subst hab
              obtain ⟨i, hi, rfl⟩ := List.mem_map.1 hb'
              exact has_mm (hh v hv i ((hm2 i).1 (htm i hi)).1) ha
          · intro a ha b hb'
            have h1 := (hm2 a).1 ha
            have h2 := (hm2 b).1 hb'
            rw [k3, has_app, hh a h1.1 b h2.1, Bool.false_or, has, List.any_eq_false]
            intro e he
            obtain ⟨i, hi, rfl⟩ := List.mem_map.1 he
            rw [isE_mm]
            omega
      · rw [if_neg hkm, if_pos (by omega)]; rfl

theorem idxB_pw (n : Nat) : (idxB n (-1)).Pairwise (fun a b : Int => a < b) := by
  rw [idxB_all, List.pairwise_map]
  exact (List.pairwise_lt_range).imp fun h => by omega

theorem mem_idxB {n : Nat} {x : Int} : x ∈ idxB n (-1) ↔ 0 ≤ x ∧ x < n := by
  rw [idxB_all, List.mem_map]
  constructor
  · rintro ⟨v, hv, rfl⟩; have := List.mem_range.1 hv; omega
  · intro h; exact ⟨x.toNat, List.mem_range.2 (by omega), by omega⟩

theorem realT_eq {d : List Int} (hb : ∀ x ∈ d, 0 ≤ x ∧ x ≤ 1000) : realT d = (realD d).map srtE :=
  real_eq d.length d.length d (idxB d.length (-1)) [] [] rfl hb (by rw [idxB_all]; simp) (idxB_pw _) (fun x hx => mem_idxB.1 hx) (fun w hw => by rw [mem_idxB]; simp; omega) .nil (by simp [has])

theorem layI_get {n : Nat} (v : Int) : ∀ (tops left : List Int) (es : List (Int × Int)) (left' : List Int) (es' : List (Int × Int)), layI v tops left es = some (left', es') → tops.Nodup → left.length = n → (∀ x ∈ tops, 0 ≤ x ∧ x < n) →
    ∀ x : Int, 0 ≤ x → x < n → left'.getD x.toNat 0 = left.getD x.toNat 0 - (if x ∈ tops then 1 else 0)
  | [], left, es, left', es', h, _, _, _, x, _, _ => by
    simp only [layI, Option.some.injEq, Prod.mk.injEq] at h
    rw [h.1]; simp
  | i :: r, left, es, left', es', h, hn, hl, hb, x, h0, h1 => by
    rw [layI] at h
    split at h
    · cases h
    have hn' := List.nodup_cons.1 hn
    have hi := hb i (by simp)
    rw [layI_get v r _ _ _ _ h hn'.2 (by simp [decAt, hl]) (fun x hx => hb x (by simp [hx])) x h0 h1, decAt_get' hi.1 h0 (by omega)]
    by_cases hx : x = i
    · subst hx; simp [hn'.1]
    · simp [hx]

theorem real_deg (n : Nat) : ∀ (m : Nat) (left todo : List Int) (es es' : List (Int × Int)), realI m left todo es = some es' → todo.Nodup → (∀ x ∈ todo, 0 ≤ x ∧ x < n) → left.length = n → (∀ x ∈ left, 0 ≤ x ∧ x ≤ 1000) → todo.length ≤ m →
    ∀ new, es' = es ++ new → ∀ u : Nat, (u : Int) ∈ todo → deg new u = left.getD u 0
  | 0, left, todo, es, es', h, _, _, _, _, hm, new, _, u, hu => by
    rw [List.length_eq_zero_iff.1 (by omega : todo.length = 0)] at hu; cases hu
  | m + 1, left, todo, es, es', h, hn, hb, hl, hle, hm, new, hnew, u, hu => by
    rw [realI] at h
    have hperm := srtC_perm (gtD left) todo []
    cases hs : srtC (gtD left) [] todo with
    | nil =>
      rw [hs] at hperm
      rw [List.length_eq_zero_iff.1 (by have := hperm.length_eq; simp at this; omega : todo.length = 0)] at hu; cases hu
    | cons v r =>
      rw [hs] at h
      rw [hs, List.nil_append] at hperm
      have hv : v ∈ todo := hperm.mem_iff.1 (by simp)
      have hvb := hb v hv
      simp only at h
      split at h
      · cases h
      rename_i hge
      obtain ⟨t2, ht2⟩ : ∃ t2, t2 = todo.filter fun x => !decide (x = v) := ⟨_, rfl⟩
      rw [← ht2] at h hge
      have hm2 : ∀ x, x ∈ t2 ↔ x ∈ todo ∧ x ≠ v := fun x => by rw [ht2, List.mem_filter]; simp
      have ht2n : t2.Nodup := by rw [ht2]; exact hn.filter _
      have ht2l : t2.length ≤ m := by
        have h1 := filter_len' (fun x => decide (x = v)) todo
        have h2 : 0 < (todo.filter fun x => decide (x = v)).length := List.length_pos_of_mem (List.mem_filter.2 ⟨hv, by simp⟩)
        rw [← ht2] at h1
        omega
      have hp2 := srtC_perm (gtD left) t2 []
      rw [List.nil_append] at hp2
      obtain ⟨tops, htops⟩ : ∃ tops, tops = topD left t2 (left.getD v.toNat 0).toNat := ⟨_, rfl⟩
      rw [← htops] at h
      have htm : ∀ x ∈ tops, x ∈ t2 := fun x hx => by rw [htops] at hx; exact hp2.mem_iff.1 (List.mem_of_mem_take hx)
      have htn : tops.Nodup := by rw [htops]; exact (hp2.nodup_iff.2 ht2n).sublist (List.take_sublist _ _)
      cases hli : layI v tops left es with
      | none => rw [hli] at h; cases h
      | some q =>
        obtain ⟨left', es1⟩ := q
        rw [hli] at h
        simp only at h
        obtain ⟨k1, k2, k3⟩ := layI_inv v _ _ _ _ _ hli hle
        obtain ⟨new2, q1, q2, q3⟩ := realI_edges n m left' t2 es1 es' h ht2n (fun x hx => hb x ((hm2 x).1 hx).1)
        have ih := real_deg n m left' t2 es1 es' h ht2n (fun x hx => hb x ((hm2 x).1 hx).1) (by omega) k2 ht2l new2 q1
        have hnn : new = (tops.map fun i => (min v i, max v i)) ++ new2 := by
          have : es ++ new = es ++ ((tops.map fun i => (min v i, max v i)) ++ new2) := by rw [← hnew, q1, k3]; simp
          exact List.append_cancel_left this
        rw [hnn, deg, S_app]
        have hvt : v ∉ tops := fun h => ((hm2 v).1 (htm v h)).2 rfl
        have hinc : ∀ i, i ≠ v → inc u (min v i, max v i) = (if (u : Int) = v then 1 else 0) + (if (u : Int) = i then 1 else 0) := by
          intro i hi
          simp only [inc]
          rcases Int.le_total v i with h | h
          · rw [Int.min_eq_left h, Int.max_eq_right h]
            congr 1
            · exact iteQ (by omega)
            · exact iteQ (by omega)
          · rw [Int.min_eq_right h, Int.max_eq_left h, Int.add_comm]
            congr 1
            · exact iteQ (by omega)
            · exact iteQ (by omega)
        have hsum : S (tops.map fun i => (min v i, max v i)) (inc u) = (if (u : Int) = v then (tops.length : Int) else 0) + (if (u : Int) ∈ tops then 1 else 0) := by
          rw [S_map, S_congr (g := fun i => (if (u : Int) = v then 1 else 0) + (if (u : Int) = i then 1 else 0)) fun i hi => hinc i fun h => hvt (h ▸ hi), S_add, S_one htn, S_const]
          split <;> simp
        rw [hsum]
        by_cases huv : (u : Int) = v
        · have : S new2 (inc u) = 0 := by
            rw [← S_zero new2]
            refine S_congr fun e he => ?_
            obtain ⟨_, a1, a2⟩ := q3 e he
            have b1 := ((hm2 _).1 a1).2
            have b2 := ((hm2 _).1 a2).2
            rw [inc, if_neg (by omega), if_neg (by omega)]; rfl
          rw [this, if_pos huv, if_neg (by rw [huv]; exact hvt)]
          have hkl : tops.length = (left.getD v.toNat 0).toNat := by
            rw [htops, topD, List.length_take, hp2.length_eq]; omega
          have hgv : left.getD v.toNat 0 = left[v.toNat]'(by omega) := by simp [List.getD_eq_getElem?_getD, List.getElem?_eq_getElem (show v.toNat < left.length by omega)]
          have hk0 : 0 ≤ left.getD v.toNat 0 := by rw [hgv]; exact (hle _ (List.getElem_mem _)).1
          rw [hkl, ← huv, Int.toNat_natCast] at *
          omega
        · have h1 := ih u ((hm2 _).2 ⟨hu, huv⟩)
          have h2 := layI_get v _ _ _ _ _ hli htn hl (fun x hx => hb x ((hm2 x).1 (htm x hx)).1) (u : Int) (by omega) (hb _ hu).2
          rw [Int.toNat_natCast] at h2
          rw [deg] at h1
          rw [h1, h2, if_neg huv]
          omega

theorem realD_degs {d : List Int} (h7 : d.length ≤ 7) (hb : ∀ x ∈ d, 0 ≤ x ∧ x ≤ 1000) {es : List (Int × Int)} (h : realD d = some es) : degs d.length (srtE es) = d := by
  obtain ⟨k1, k2, k3, k4⟩ := realD_ok h7 h
  have h1 := real_deg d.length _ _ _ _ _ h ((idxB_pw _).imp fun h => by omega) (fun x hx => mem_idxB.1 hx) rfl hb (by rw [idxB_all]; simp) es (by simp)
  rw [degs_eq (fun e he => by have := mem_prs.1 ((vG_iff.1 k4).2.1 e he); omega)]
  refine List.ext_getElem (by simp) fun i hi hj => ?_
  rw [List.getElem_map, List.getElem_range]
  have := h1 i (mem_idxB.2 (by omega))
  rw [deg, S_perm (srtE_perm es), ← deg, this]
  simp [List.getD_eq_getElem?_getD, List.getElem?_eq_getElem hj]

end Go.Idl

namespace Go.Idl

theorem realLaw : ∀ d, valid d = true → RealLaw d := fun d hv => by
  have hf := valid_few hv
  have hb : ∀ x ∈ d, 0 ≤ x ∧ x ≤ 1000 := fun x hx => by have := hf.2 x hx; omega
  exact ⟨realT_eq hb, fun es h => ⟨(realD_ok hf.1 h).2.2.2, realD_degs hf.1 hb h⟩⟩

end Go.Idl

namespace Go.Idl

/-- Laying off by numbers alone, of falling lists. -/
def hv : Nat → List Int → Bool
  | 0, _ => true
  | _ + 1, [] => true
  | m + 1, x :: r => decide (x ≤ r.length) && (r.take x.toNat).all (fun y => !decide (y = 0)) && hv m (fall ((r.take x.toNat).map (fun y => y - 1) ++ r.drop x.toNat))

def chkH (s : List Int) : Bool := decide (hv s.length s = (decide (s.sum % 2 = 0) && noneNeg (slS s)))

set_option maxRecDepth 100000 in
theorem chkH_all : (List.range 8).all (fun n => allD chkH n (n - 1) []) = true := by kernel_rfl

theorem hv_graphic {d : List Int} (hv' : valid d = true) : hv d.length (fall d) = graphic d := by
  have h1 := (valid_few hv').1
  have h2 := valid_mem hv'
  have hc := List.all_eq_true.1 chkH_all d.length (List.mem_range.2 (by omega))
  have h3 := allD_ok chkH d.length (d.length - 1) [] (fall d) hc (fall_len d) (fall_desc d) (fun x hx => by
    have := h2 x (fall_mem.1 hx)
    omega)
  simp only [List.reverse_nil, List.nil_append, chkH, decide_eq_true_eq, fall_len, fall_sum] at h3
  rw [h3, graphic, hv', slacks_S, Bool.true_and]
  rfl

theorem layI_some {n : Nat} (v : Int) : ∀ (tops left : List Int) (es : List (Int × Int)), tops.Nodup → left.length = n → (∀ x ∈ tops, 0 ≤ x ∧ x < n) →
    (layI v tops left es).isSome = tops.all (fun i => !decide (left.getD i.toNat 0 = 0))
  | [], left, es, _, _, _ => rfl
  | i :: r, left, es, hn, hl, hb => by
    have hn' := List.nodup_cons.1 hn
    have hi := hb i (by simp)
    rw [layI]
    by_cases h0 : left.getD i.toNat 0 = 0
    · rw [if_pos h0, List.all_cons, h0]; rfl
    · rw [if_neg h0, layI_some v r _ _ hn'.2 (by simp [decAt, hl]) (fun x hx => hb x (by simp [hx])), List.all_cons]
      simp only [h0, decide_false, Bool.not_false, Bool.true_and]
      rw [Bool.eq_iff_iff, List.all_eq_true, List.all_eq_true]
      refine forall_congr' fun x => ?_
      refine forall_congr' fun (hx : x ∈ r) => ?_
      have hxb := hb x (by simp [hx])
      rw [decAt_get' hi.1 hxb.1 (by omega), if_neg (fun h => hn'.1 (by rw [← h]; exact hx))]
      simp

theorem lex_unique {left xs ys : List Int} (hx : xs.Pairwise (lexR left)) (hy : ys.Pairwise (lexR left)) (h : xs.Perm ys) : xs = ys :=
  h.eq_of_pairwise (fun a b _ _ h k => absurd (lexR_trans h k) lexR_irr) hx hy

theorem realI_hv (n : Nat) : ∀ (m : Nat) (left todo : List Int) (es : List (Int × Int)), left.length = n → (∀ x ∈ left, 0 ≤ x ∧ x ≤ 1000) → todo.length = m → todo.Pairwise (fun a b : Int => a < b) → (∀ x ∈ todo, 0 ≤ x ∧ x < n) →
    (realI m left todo es).isSome = hv m (fall (todo.map fun x => left.getD x.toNat 0))
  | 0, left, todo, es, _, _, _, _, _ => rfl
  | m + 1, left, todo, es, hl, hb, htl, htp, htb => by
    have hsorted : ∀ (left' T : List Int), T.Pairwise (fun a b : Int => a < b) → fall (T.map fun x => left'.getD x.toNat 0) = (srtC (gtD left') [] T).map fun x => left'.getD x.toNat 0 := fun left' T hT => by
      refine (fall_unique ?_ (((srtC_perm (gtD left') T [])).map _)).symm
      rw [Desc, List.pairwise_map]
      exact (srtC_lex (left := left') T [] .nil (by simp) hT).imp fun h => by simp only [lexR] at h; omega
    rw [hsorted left todo htp, realI]
    have hperm := srtC_perm (gtD left) todo []
    have hlex := srtC_lex (left := left) todo [] .nil (by simp) htp
    cases hs : srtC (gtD left) [] todo with
    | nil => rw [hs] at hperm; have := hperm.length_eq; simp at this; omega
    | cons v r =>
      rw [hs, List.nil_append] at hperm
      rw [hs] at hlex
      have hv0 : v ∈ todo := hperm.mem_iff.1 (by simp)
      have hvb := htb v hv0
      obtain ⟨t2, ht2⟩ : ∃ t2, t2 = todo.filter fun x => !decide (x = v) := ⟨_, rfl⟩
      simp only [← ht2]
      have ht2p : t2.Pairwise (fun a b : Int => a < b) := by rw [ht2]; exact htp.filter _
      have hnd : todo.Nodup := htp.imp fun h => by omega
      have hm2 : ∀ x, x ∈ t2 ↔ x ∈ todo ∧ x ≠ v := fun x => by rw [ht2, List.mem_filter]; simp
      have hrn : (v :: r).Nodup := hperm.nodup_iff.2 hnd
      have hr2 : r.Perm t2 := by
        refine (List.perm_ext_iff_of_nodup (List.nodup_cons.1 hrn).2 (ht2p.imp fun h => by omega)).2 fun x => ?_
        rw [hm2, ← hperm.mem_iff, List.mem_cons]
        constructor
        · exact fun h => ⟨.inr h, fun k => (List.nodup_cons.1 hrn).1 (k ▸ h)⟩
        · rintro ⟨rfl | h, k⟩
          · exact absurd rfl k
          · exact h
      have hsr : srtC (gtD left) [] t2 = r := lex_unique (srtC_lex _ _ .nil (by simp) ht2p) (List.pairwise_cons.1 hlex).2 ((srtC_perm (gtD left) t2 []).trans (by simpa using hr2.symm))
      have hrl : r.length = m := by have := hperm.length_eq; simp at this; omega
      rw [List.map_cons, hv, List.length_map, ← hr2.length_eq, topD, hsr, ← List.map_take, ← List.map_drop]
      by_cases hk : left.getD v.toNat 0 ≤ r.length
      · rw [if_neg (by omega)]
        simp only [hk, decide_true, Bool.true_and]
        generalize (left.getD v.toNat 0).toNat = k
        have htn : (r.take k).Nodup := (List.nodup_cons.1 hrn).2.sublist (List.take_sublist _ _)
        have htb2 : ∀ x ∈ r, 0 ≤ x ∧ x < n := fun x hx => htb x ((hm2 x).1 (hr2.mem_iff.1 hx)).1
        have htb3 : ∀ x ∈ r.take k, 0 ≤ x ∧ x < n := fun x hx => htb2 x (List.mem_of_mem_take hx)
        have hsome := layI_some v (r.take k) left es htn hl htb3
        rw [List.all_map]
        cases hli : layI v (r.take k) left es with
        | none =>
          rw [hli] at hsome
          have : (r.take k).all ((fun y => !decide (y = 0)) ∘ fun x => left.getD x.toNat 0) = false := hsome.symm
          rw [this]; rfl
        | some q =>
          obtain ⟨left', es'⟩ := q
          rw [hli] at hsome
          have : (r.take k).all ((fun y => !decide (y = 0)) ∘ fun x => left.getD x.toNat 0) = true := hsome.symm
          rw [this, Bool.true_and]
          obtain ⟨k1, k2, k3⟩ := layI_inv v _ _ _ _ _ hli hb
          have hg := layI_get v _ _ _ _ _ hli htn hl htb3
          simp only
          rw [realI_hv n m left' t2 es' (by omega) k2 (by rw [← hr2.length_eq]; exact hrl) ht2p (fun x hx => htb x ((hm2 x).1 hx).1)]
          refine congrArg (hv m) (fall_congr ((hr2.symm.map _).trans ?_))
          conv => lhs; rw [← List.take_append_drop k r, List.map_append]
          rw [List.map_map]
          have hdis : ∀ x ∈ r.drop k, x ∉ r.take k := by
            have := (List.nodup_append.1 (by rw [List.take_append_drop]; exact (List.nodup_cons.1 hrn).2 : (r.take k ++ r.drop k).Nodup)).2.2
            exact fun x hx hx' => this x hx' x hx rfl
          refine List.Perm.append (.of_eq (List.map_congr_left fun x hx => ?_)) (.of_eq (List.map_congr_left fun x hx => ?_))
          · have hx2 := htb3 x hx
            rw [hg x hx2.1 hx2.2, if_pos hx]; rfl
          · have hx2 := htb2 x (List.mem_of_mem_drop hx)
            rw [hg x hx2.1 hx2.2, if_neg (hdis x hx)]; simp
      · rw [if_pos (by omega), decide_eq_false hk]
        rfl

theorem realD_some {d : List Int} (hv' : valid d = true) : (realD d).isSome = graphic d := by
  have hf := valid_few hv'
  have hb : ∀ x ∈ d, 0 ≤ x ∧ x ≤ 1000 := fun x hx => by have := hf.2 x hx; omega
  rw [realD, realI_hv d.length d.length d _ [] rfl hb (by rw [idxB_all]; simp) (idxB_pw _) (fun x hx => mem_idxB.1 hx), ← hv_graphic hv']
  congr 2
  rw [idxB_all, List.map_map]
  refine List.ext_getElem (by simp) fun i h1 h2 => ?_
  simp [List.getD_eq_getElem?_getD, List.getElem?_eq_getElem h2]

end Go.Idl

namespace Go.Idl

theorem comp_twice (d : List Int) : comp (comp d) = d := by
  rw [comp_map, comp_map]
  refine List.ext_getElem (by simp) fun i h1 h2 => ?_
  simp only [List.length_map, List.map_map, List.getElem_map, Function.comp_apply]
  omega

theorem graphic_compI {d : List Int} (hl : d.length ≤ 7) (h : graphic d = true) : graphic (comp d) = true := by
  obtain ⟨es, h1, h2⟩ := (graphic_iff_real hl).1 h
  have := degs_graphic (compM_vG hl es)
  rw [degs_compM h1, h2] at this
  exact this

theorem graphic_comp {d : List Int} (hl : d.length ≤ 7) : graphic (comp d) = graphic d := by
  rw [Bool.eq_iff_iff]
  refine ⟨fun h => ?_, graphic_compI hl⟩
  have := graphic_compI (d := comp d) (by simp [comp]; omega) h
  rw [comp_twice] at this
  exact this

theorem graphicLaw : ∀ d, valid d = true → GraphicLaw d := fun d hv =>
  ⟨realD_some hv, graphic_comp (valid_few hv).1, (realLaw d hv).2⟩

end Go.Idl

