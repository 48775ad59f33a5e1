/- Part 6 of a proof by an ideal interpreter of the code: its definitions and lemmas. Conditions: none. -/
import Derived.KernelRfl
import Derived.Test.YtppjfjleffabaaaA5
set_option linter.all false
set_option linter.unusedVariables false
set_option linter.unusedSimpArgs false
namespace Go.Idl

open Go

theorem edgesIn_ins {N : Nat} {es : List (Int × Int)} (h : EdgesIn N es) {a b : Int} (ha : 0 ≤ a ∧ a < N) (hb : 0 ≤ b ∧ b < N) : EdgesIn N (insE (min a b, max a b) es) := fun e he => by
  rcases (insE_mem _ _ _).1 he with rfl | he
  · simp only; omega
  · exact h e he

theorem ctree_in (N : Nat) : ∀ (rest gone : List Int) (es : List (Int × Int)), EdgesIn N es → (∀ x ∈ rest, 0 ≤ x ∧ x < N) → (∀ x ∈ gone, 0 ≤ x ∧ x < N) → rest.length + gone.length < N → EdgesIn N (ctree N rest gone es).1
  | [], gone, es, h, _, _, _ => h
  | c :: r, gone, es, h, hr, hg, hl => by
    obtain ⟨w, h1, h2⟩ := free_ex hl
    have hf := freeV_ok (c :: r) gone N 0 w (by omega) (by omega) h2
    rw [ctree]
    refine ctree_in N r _ _ (edgesIn_ins h (by omega) (hr c (by simp))) (fun x hx => hr x (by simp [hx])) (fun x hx => ?_) (by simp at hl ⊢; omega)
    rcases List.mem_append.1 hx with hx | hx
    · exact hg x hx
    · simp at hx; omega

theorem codeT_in {code : List Int} (hc : Code7 code) : EdgesIn (code.length + 2) (codeT code) := by
  have hlen := ctree_len (code.length + 2) code [] []
  have hla := lasts_len (N := code.length + 2) (gone := (ctree (code.length + 2) code [] []).2) (by rw [hlen.2]; simp)
  have h1 := ctree_in (code.length + 2) code [] [] (fun e he => by simp at he) (fun x hx => by have := hc.el x hx; omega) (fun x hx => by simp at hx) (by simp)
  have hm : ∀ i, i < (lasts (code.length + 2) (ctree (code.length + 2) code [] []).2).length → 0 ≤ (lasts (code.length + 2) (ctree (code.length + 2) code [] []).2).getD i 0 ∧ (lasts (code.length + 2) (ctree (code.length + 2) code [] []).2).getD i 0 < (code.length + 2 : Nat) := fun i hi => by
    rw [List.getD_eq_getElem?_getD, List.getElem?_eq_getElem hi]
    exact lasts_mem (List.getElem_mem hi)
  exact edgesIn_ins h1 (hm 0 (by omega)) (hm 1 (by omega))

theorem codeT_len (code : List Int) : (codeT code).length = code.length + 1 := by
  rw [codeT, insE_len, (ctree_len _ _ _ _).1]; simp

theorem at_in (code : List Int) (c : Bool) (hc : CodeOk code) (n : Nat) (hn : n ≤ 5) (bs : Boxes) (Ms : List Boxes) : ∀ (m i cnt : Nat) (acc : List Int), i + m = n → acc.length = i → (∀ x ∈ acc, 0 ≤ x ∧ x < (n : Int) + 2) → cnt + m ≤ 900000 →
    wp tb (.loop ic_spec_aTree_l7) { T := [(0, .bptr 0 0 0), (3, O acc), (4, I n), (5, I i)], loc := [], M := (R code c cnt :: bs) :: Ms }
      (fun ex st => ex = .exit 0 ∧ ∃ (acc : List Int) (k : Nat), (acc.length = n ∧ (∀ x ∈ acc, 0 ≤ x ∧ x < (n : Int) + 2) ∧ k ≤ cnt + m) ∧ st = { T := [(0, .bptr 0 0 0), (3, O acc), (4, I n), (5, I n), (11, Bo false)], loc := [], M := (R code c k :: bs) :: Ms }) := by
  intro m
  induction m with
  | zero =>
    intro i cnt acc hi hl hb hk
    have h3 : i = n := hi
    subst h3
    refine wp_loop ?_
    repeat (first | refine wp_as ?_ | refine wp_ss ?_ | refine wp_rs (by simp; with_reducible rfl) (by simp; with_reducible rfl) ?_ | refine wp_reg (by simp; with_reducible rfl) (by simp; with_reducible rfl) ?_ | (refine wp_ct (t := true) ?_ (fun _ => ?_) (fun hh => nomatch hh); focus (simp; done)) | (refine wp_ct (t := false) ?_ (fun hh => nomatch hh) (fun _ => ?_); focus (simp; done)) | (refine wp_c (t := true) ?_ (fun _ => ?_) (fun hh => nomatch hh); focus (simp; done)) | (refine wp_c (t := false) ?_ (fun hh => nomatch hh) (fun _ => ?_); focus (simp; done)) | refine wp_bs ?_ | refine wp_b ?_ | refine wp_sr ?_ | refine wp_sx ?_ | refine wp_ret' ?_ | refine wp_skip' ?_ | refine wp_exit' ?_)
    exact ⟨rfl, acc, cnt, ⟨hl, hb, by omega⟩, rfl⟩
  | succ m ih =>
    intro i cnt acc hi hl hb hk
    have hi2 : i < n := by omega
    have w1 : IntKind.i64.wrap ((n : Int) + 2) = (n : Int) + 2 := wrap64 (by omega) (by omega)
    have w2 : IntKind.i64.wrap ((i : Int) + 1) = ((i + 1 : Nat) : Int) := wrapS (by omega)
    obtain ⟨v, k, hv, hk2, e1⟩ := pick' code c hc cnt (by omega) ((n : Int) + 2) (by omega) bs (Ms ++ [[]])
    have hv := hv (by omega)
    have hal : acc.length + 1 ≤ 274877906944 := by omega
    have hat : acc.take acc.length = acc := List.take_of_length_le (Nat.le_refl _)
    refine wp_loop ?_
    repeat (first | refine wp_as ?_ | refine wp_ss ?_ | refine wp_rs (by simp [hi2, w1, w2, e1, hal, hat]; with_reducible rfl) (by simp; with_reducible rfl) ?_ | refine wp_reg (by simp [hi2, w1, w2, e1, hal, hat]; with_reducible rfl) (by simp; with_reducible rfl) ?_ | (refine wp_ct (t := true) ?_ (fun _ => ?_) (fun hh => nomatch hh); focus (simp [hi2, w1, w2, e1, hal, hat]; done)) | (refine wp_ct (t := false) ?_ (fun hh => nomatch hh) (fun _ => ?_); focus (simp [hi2, w1, w2, e1, hal, hat]; done)) | (refine wp_c (t := true) ?_ (fun _ => ?_) (fun hh => nomatch hh); focus (simp [hi2, w1, w2, e1, hal, hat]; done)) | (refine wp_c (t := false) ?_ (fun hh => nomatch hh) (fun _ => ?_); focus (simp [hi2, w1, w2, e1, hal, hat]; done)) | refine wp_bs ?_ | refine wp_b ?_ | refine wp_sr ?_ | refine wp_sx ?_ | refine wp_ret' ?_ | refine wp_skip' ?_ | refine wp_exit' ?_)
    refine wp_imp (ih (i + 1) k (acc ++ [(v : Int)]) (by omega) (by simp [hl]) (fun x hx => ?_) (by omega)) ?_
    · rcases List.mem_append.1 hx with hx | hx
      · exact hb x hx
      · simp at hx; omega
    · rintro ex st ⟨rfl, acc', k', ⟨h1, h2, h3⟩, rfl⟩
      exact ⟨rfl, acc', k', ⟨h1, h2, by omega⟩, rfl⟩

theorem ev_aTree (code : List Int) (c : Bool) (hc : CodeOk code) (cnt : Nat) (hn : cnt ≤ 80000) (bs : Boxes) (Ms : List Boxes) :
    ∃ (d : List Int) (k : Nat), d.length ≤ 7 ∧ Low 1000 d ∧ k ≤ cnt + 10 ∧
      limF tb l_spec_aTree [] [.bptr 0 0 0] ((R code c cnt :: bs) :: Ms) = some ⟨O d, [], (R code c k :: bs) :: Ms, []⟩ := by
  obtain ⟨v, k1, hv, hk1, e1⟩ := pick' code c hc cnt (by omega) 6 (by omega) bs (Ms ++ [[]])
  have hv := hv (by omega)
  suffices hh : ∃ r, (∃ (d : List Int) (k : Nat), d.length ≤ 7 ∧ Low 1000 d ∧ k ≤ cnt + 10 ∧ r = ⟨O d, [], (R code c k :: bs) :: Ms, []⟩) ∧ Ev tb l_spec_aTree [] [.bptr 0 0 0] ((R code c cnt :: bs) :: Ms) r by
    obtain ⟨r, ⟨d, k, q1, q2, q3, rfl⟩, q4⟩ := hh
    exact ⟨d, k, q1, q2, q3, ev_lim q4⟩
  refine call_ex tb_spec_aTree rfl ?_
  repeat (first | refine wp_as ?_ | refine wp_ss ?_ | refine wp_rs (by simp [e1]; with_reducible rfl) (by simp; with_reducible rfl) ?_ | refine wp_reg (by simp [e1]; with_reducible rfl) (by simp; with_reducible rfl) ?_ | (refine wp_ct (t := true) ?_ (fun _ => ?_) (fun hh => nomatch hh); focus (simp [e1]; done)) | (refine wp_ct (t := false) ?_ (fun hh => nomatch hh) (fun _ => ?_); focus (simp [e1]; done)) | (refine wp_c (t := true) ?_ (fun _ => ?_) (fun hh => nomatch hh); focus (simp [e1]; done)) | (refine wp_c (t := false) ?_ (fun hh => nomatch hh) (fun _ => ?_); focus (simp [e1]; done)) | refine wp_bs ?_ | refine wp_b ?_ | refine wp_sr ?_ | refine wp_sx ?_ | refine wp_ret' ?_ | refine wp_skip' ?_ | refine wp_exit' ?_)
  refine wp_imp (at_in code c hc v (by omega) bs Ms v 0 k1 [] (by omega) rfl (by simp) (by omega)) ?_
  rintro ex st ⟨rfl, acc, k, ⟨h1, h2, h3⟩, rfl⟩
  try simp only [if_true]
  have hc7 : Code7 acc := ⟨by omega, fun x hx => by have := h2 x hx; omega⟩
  have e2 := fun cc => ev_lim (ev_codeTree acc cc hc7)
  have hin := codeT_in hc7
  have hel := codeT_len acc
  have e3 := fun cc => ev_lim (ev_degrees (acc.length + 2) (codeT acc) cc (by omega) (by omega) hin)
  have hdl : (degs (acc.length + 2) (codeT acc)).length = acc.length + 2 := by rw [degs, dfold_len]; simp
  have hlo : Low 1000 (degs (acc.length + 2) (codeT acc)) := by
    intro x hx
    have := dfold_bound (codeT acc) (List.replicate (acc.length + 2) 0) 0 (by intro x hx; have := List.eq_of_mem_replicate hx; omega) (by omega) x hx
    omega
  have hto : acc.take acc.length = acc := List.take_of_length_le (Nat.le_refl _)
  have hn2 : ((acc.length + 2 : Nat) : Int) = (acc.length : Int) + 2 := by omega
  rw [hn2] at e3
  generalize degs (acc.length + 2) (codeT acc) = d at *
  repeat (first | refine wp_as ?_ | refine wp_ss ?_ | refine wp_rs (by simp [e2, e3, hto]; with_reducible rfl) (by simp; with_reducible rfl) ?_ | refine wp_reg (by simp [e2, e3, hto]; with_reducible rfl) (by simp; with_reducible rfl) ?_ | (refine wp_ct (t := true) ?_ (fun _ => ?_) (fun hh => nomatch hh); focus (simp [e2, e3, hto]; done)) | (refine wp_ct (t := false) ?_ (fun hh => nomatch hh) (fun _ => ?_); focus (simp [e2, e3, hto]; done)) | (refine wp_c (t := true) ?_ (fun _ => ?_) (fun hh => nomatch hh); focus (simp [e2, e3, hto]; done)) | (refine wp_c (t := false) ?_ (fun hh => nomatch hh) (fun _ => ?_); focus (simp [e2, e3, hto]; done)) | refine wp_bs ?_ | refine wp_b ?_ | refine wp_sr ?_ | refine wp_sx ?_ | refine wp_ret' ?_ | refine wp_skip' ?_ | refine wp_exit' ?_)
  refine ⟨.inr rfl, _, ⟨d, k, by omega, hlo, by omega, rfl⟩, ?_⟩
  simp [if_spec_aTree]

theorem ev_DrawIsTreeDegrees (code : List Int) (c : Bool) (h : ∀ x ∈ code, 0 ≤ x ∧ x ≤ 255) (hl : code.length ≤ 10000000) :
    ∃ d : List Int, d.length ≤ 8 ∧ Low 1000 d ∧ limF tb l_spec_DrawIsTreeDegrees [] [.lst 1 (bytes code) c] [] = some ⟨O d, [], [], []⟩ := by
  obtain ⟨c', e⟩ := ev_newReader code c [[]] (by omega)
  have e1 := ev_lim e
  obtain ⟨v, k1, hv, hk1, e2⟩ := pick' (code.take 2000) c' (code_ok h) 0 (by omega) 2 (by omega) [] []
  rw [show ((0 : Nat) : Int) = 0 from rfl] at e2
  by_cases hv0 : v = 0
  · subst hv0
    obtain ⟨d, k2, hd, hlo, hk2, e3⟩ := ev_aTree (code.take 2000) c' (code_ok h) k1 (by omega) [] []
    obtain ⟨d', k3, hd', hlo', hk3, e4⟩ := ev_bent (code.take 2000) c' (code_ok h) k2 (by omega) d (by omega) hlo [] []
    refine ⟨d', by omega, hlo', ev_lim ?_⟩
    refine call_of_wp tb_spec_DrawIsTreeDegrees rfl ?_
    repeat (first | refine wp_as ?_ | refine wp_ss ?_ | refine wp_rs (by simp [e1, e2, e3, e4]; with_reducible rfl) (by simp; with_reducible rfl) ?_ | refine wp_reg (by simp [e1, e2, e3, e4]; with_reducible rfl) (by simp; with_reducible rfl) ?_ | (refine wp_ct (t := true) ?_ (fun _ => ?_) (fun hh => nomatch hh); focus (simp [e1, e2, e3, e4]; done)) | (refine wp_ct (t := false) ?_ (fun hh => nomatch hh) (fun _ => ?_); focus (simp [e1, e2, e3, e4]; done)) | (refine wp_c (t := true) ?_ (fun _ => ?_) (fun hh => nomatch hh); focus (simp [e1, e2, e3, e4]; done)) | (refine wp_c (t := false) ?_ (fun hh => nomatch hh) (fun _ => ?_); focus (simp [e1, e2, e3, e4]; done)) | refine wp_bs ?_ | refine wp_b ?_ | refine wp_sr ?_ | refine wp_sx ?_ | refine wp_ret' ?_ | refine wp_skip' ?_ | refine wp_exit' ?_)
    simp [if_spec_DrawIsTreeDegrees]
  · have hv1 : ¬ (v : Int) = 0 := by omega
    obtain ⟨d, k2, hd, hlo, hk2, e3⟩ := ev_someDegrees (code.take 2000) c' (code_ok h) k1 (by omega) [] []
    refine ⟨d, by omega, hlo, ev_lim ?_⟩
    refine call_of_wp tb_spec_DrawIsTreeDegrees rfl ?_
    repeat (first | refine wp_as ?_ | refine wp_ss ?_ | refine wp_rs (by simp [e1, e2, e3, hv0, hv1]; with_reducible rfl) (by simp; with_reducible rfl) ?_ | refine wp_reg (by simp [e1, e2, e3, hv0, hv1]; with_reducible rfl) (by simp; with_reducible rfl) ?_ | (refine wp_ct (t := true) ?_ (fun _ => ?_) (fun hh => nomatch hh); focus (simp [e1, e2, e3, hv0, hv1]; done)) | (refine wp_ct (t := false) ?_ (fun hh => nomatch hh) (fun _ => ?_); focus (simp [e1, e2, e3, hv0, hv1]; done)) | (refine wp_c (t := true) ?_ (fun _ => ?_) (fun hh => nomatch hh); focus (simp [e1, e2, e3, hv0, hv1]; done)) | (refine wp_c (t := false) ?_ (fun hh => nomatch hh) (fun _ => ?_); focus (simp [e1, e2, e3, hv0, hv1]; done)) | refine wp_bs ?_ | refine wp_b ?_ | refine wp_sr ?_ | refine wp_sx ?_ | refine wp_ret' ?_ | refine wp_skip' ?_ | refine wp_exit' ?_)
    simp [if_spec_DrawIsTreeDegrees]

end Go.Idl

namespace Go.Idl

open Go

def posAll (d : List Int) : Bool := d.all fun x => decide (0 < x)

/-- Degrees of a connected graph. -/
def conn (d : List Int) : Bool := graphic d && (decide (0 < d.length) && ((decide (d.length = 1) || posAll d) && decide (2 * (d.length : Int) - 2 ≤ d.sum)))

def treeD (d : List Int) : Bool := conn d && decide (d.sum = 2 * (d.length : Int) - 2)

theorem graphic_valid {d : List Int} (h : graphic d = true) : valid d = true := by simp only [graphic, Bool.and_eq_true] at h; exact h.1.1

theorem min_pos {x : Int} {r : List Int} : (decide (0 < least1 x r)) = posAll (x :: r) := by
  rw [Bool.eq_iff_iff, decide_eq_true_eq]
  have := least1_ge r x 1
  simp only [posAll, List.all_eq_true, decide_eq_true_eq, List.mem_cons]
  constructor
  · intro h y hy
    have h2 := this.1 (by omega)
    rcases hy with rfl | hy
    · omega
    · have := h2.2 y hy; omega
  · intro h
    have := this.2 ⟨by have := h x (.inl rfl); omega, fun y hy => by have := h y (.inr hy); omega⟩
    omega

theorem ev_IsConnectable (d : List Int) (c : Bool) (hl : d.length ≤ 1000000) : Ev tb l_impl_IsConnectable [] [L d c] [] ⟨Bo (conn d), [], [], []⟩ := by
  have e1 := ev_lim (ev_IsGraphic d c hl)
  unfold conn
  cases hg : graphic d with
  | false =>
    refine call_of_wp tb_impl_IsConnectable rfl ?_
    repeat (first | refine wp_as ?_ | refine wp_ss ?_ | refine wp_rs (by simp [e1, hg]; with_reducible rfl) (by simp; with_reducible rfl) ?_ | refine wp_reg (by simp [e1, hg]; with_reducible rfl) (by simp; with_reducible rfl) ?_ | (refine wp_ct (t := true) ?_ (fun _ => ?_) (fun hh => nomatch hh); focus (simp [e1, hg]; done)) | (refine wp_ct (t := false) ?_ (fun hh => nomatch hh) (fun _ => ?_); focus (simp [e1, hg]; done)) | (refine wp_c (t := true) ?_ (fun _ => ?_) (fun hh => nomatch hh); focus (simp [e1, hg]; done)) | (refine wp_c (t := false) ?_ (fun hh => nomatch hh) (fun _ => ?_); focus (simp [e1, hg]; done)) | refine wp_bs ?_ | refine wp_b ?_ | refine wp_sr ?_ | refine wp_sx ?_ | refine wp_ret' ?_ | refine wp_skip' ?_ | refine wp_exit' ?_)
    simp [if_impl_IsConnectable]
  | true =>
  have hf := valid_few (graphic_valid hg)
  have hsm := hf.sum
  have e2 := ev_lim (ev_sum d c hf.small)
  have h7 := hf.1
  cases d with
  | nil =>
    refine call_of_wp tb_impl_IsConnectable rfl ?_
    repeat (first | refine wp_as ?_ | refine wp_ss ?_ | refine wp_rs (by simp [e1, hg]; with_reducible rfl) (by simp; with_reducible rfl) ?_ | refine wp_reg (by simp [e1, hg]; with_reducible rfl) (by simp; with_reducible rfl) ?_ | (refine wp_ct (t := true) ?_ (fun _ => ?_) (fun hh => nomatch hh); focus (simp [e1, hg]; done)) | (refine wp_ct (t := false) ?_ (fun hh => nomatch hh) (fun _ => ?_); focus (simp [e1, hg]; done)) | (refine wp_c (t := true) ?_ (fun _ => ?_) (fun hh => nomatch hh); focus (simp [e1, hg]; done)) | (refine wp_c (t := false) ?_ (fun hh => nomatch hh) (fun _ => ?_); focus (simp [e1, hg]; done)) | refine wp_bs ?_ | refine wp_b ?_ | refine wp_sr ?_ | refine wp_sx ?_ | refine wp_ret' ?_ | refine wp_skip' ?_ | refine wp_exit' ?_)
    simp [if_impl_IsConnectable]
  | cons x r =>
  have e3 := ev_lim (ev_Min x r c (by simp at h7; omega))
  have hmp := min_pos (x := x) (r := r)
  have w1 : IntKind.i64.wrap (2 * ((r.length : Int) + 1)) = 2 * ((r.length : Int) + 1) := wrap64 (by omega) (by simp at h7; omega)
  have w2 : IntKind.i64.wrap (2 * ((r.length : Int) + 1) - 2) = 2 * ((r.length : Int) + 1) - 2 := wrap64 (by omega) (by simp at h7; omega)
  by_cases h1 : r = []
  · subst h1
    refine call_of_wp tb_impl_IsConnectable rfl ?_
    repeat (first | refine wp_as ?_ | refine wp_ss ?_ | refine wp_rs (by simp [e1, e2, hg, show IntKind.i64.wrap 2 = 2 from rfl, show IntKind.i64.wrap 0 = 0 from rfl]; with_reducible rfl) (by simp; with_reducible rfl) ?_ | refine wp_reg (by simp [e1, e2, hg, show IntKind.i64.wrap 2 = 2 from rfl, show IntKind.i64.wrap 0 = 0 from rfl]; with_reducible rfl) (by simp; with_reducible rfl) ?_ | (refine wp_ct (t := true) ?_ (fun _ => ?_) (fun hh => nomatch hh); focus (simp [e1, e2, hg, show IntKind.i64.wrap 2 = 2 from rfl, show IntKind.i64.wrap 0 = 0 from rfl]; done)) | (refine wp_ct (t := false) ?_ (fun hh => nomatch hh) (fun _ => ?_); focus (simp [e1, e2, hg, show IntKind.i64.wrap 2 = 2 from rfl, show IntKind.i64.wrap 0 = 0 from rfl]; done)) | (refine wp_c (t := true) ?_ (fun _ => ?_) (fun hh => nomatch hh); focus (simp [e1, e2, hg, show IntKind.i64.wrap 2 = 2 from rfl, show IntKind.i64.wrap 0 = 0 from rfl]; done)) | (refine wp_c (t := false) ?_ (fun hh => nomatch hh) (fun _ => ?_); focus (simp [e1, e2, hg, show IntKind.i64.wrap 2 = 2 from rfl, show IntKind.i64.wrap 0 = 0 from rfl]; done)) | refine wp_bs ?_ | refine wp_b ?_ | refine wp_sr ?_ | refine wp_sx ?_ | refine wp_ret' ?_ | refine wp_skip' ?_ | refine wp_exit' ?_)
    simp [if_impl_IsConnectable]
  · have h2 : ¬ r.length = 0 := fun h => h1 (List.length_eq_zero_iff.1 h)
    have h3 : ¬ (r.length : Int) = 0 := by omega
    have h4 : ¬ (r.length : Int) + 1 = 1 := by omega
    have h5 : (0 : Int) < (r.length : Int) + 1 := by omega
    rw [show posAll (x :: r) = decide (0 < least1 x r) from hmp.symm]
    by_cases hp : 0 < least1 x r
    · refine call_of_wp tb_impl_IsConnectable rfl ?_
      repeat (first | refine wp_as ?_ | refine wp_ss ?_ | refine wp_rs (by simp [e1, e2, e3, hg, h1, h2, h3, h4, h5, hp, w1, w2]; with_reducible rfl) (by simp; with_reducible rfl) ?_ | refine wp_reg (by simp [e1, e2, e3, hg, h1, h2, h3, h4, h5, hp, w1, w2]; with_reducible rfl) (by simp; with_reducible rfl) ?_ | (refine wp_ct (t := true) ?_ (fun _ => ?_) (fun hh => nomatch hh); focus (simp [e1, e2, e3, hg, h1, h2, h3, h4, h5, hp, w1, w2]; done)) | (refine wp_ct (t := false) ?_ (fun hh => nomatch hh) (fun _ => ?_); focus (simp [e1, e2, e3, hg, h1, h2, h3, h4, h5, hp, w1, w2]; done)) | (refine wp_c (t := true) ?_ (fun _ => ?_) (fun hh => nomatch hh); focus (simp [e1, e2, e3, hg, h1, h2, h3, h4, h5, hp, w1, w2]; done)) | (refine wp_c (t := false) ?_ (fun hh => nomatch hh) (fun _ => ?_); focus (simp [e1, e2, e3, hg, h1, h2, h3, h4, h5, hp, w1, w2]; done)) | refine wp_bs ?_ | refine wp_b ?_ | refine wp_sr ?_ | refine wp_sx ?_ | refine wp_ret' ?_ | refine wp_skip' ?_ | refine wp_exit' ?_)
      simp [if_impl_IsConnectable, h1, hp]
      rfl
    · refine call_of_wp tb_impl_IsConnectable rfl ?_
      repeat (first | refine wp_as ?_ | refine wp_ss ?_ | refine wp_rs (by simp [e1, e2, e3, hg, h1, h2, h3, h4, h5, hp, w1, w2]; with_reducible rfl) (by simp; with_reducible rfl) ?_ | refine wp_reg (by simp [e1, e2, e3, hg, h1, h2, h3, h4, h5, hp, w1, w2]; with_reducible rfl) (by simp; with_reducible rfl) ?_ | (refine wp_ct (t := true) ?_ (fun _ => ?_) (fun hh => nomatch hh); focus (simp [e1, e2, e3, hg, h1, h2, h3, h4, h5, hp, w1, w2]; done)) | (refine wp_ct (t := false) ?_ (fun hh => nomatch hh) (fun _ => ?_); focus (simp [e1, e2, e3, hg, h1, h2, h3, h4, h5, hp, w1, w2]; done)) | (refine wp_c (t := true) ?_ (fun _ => ?_) (fun hh => nomatch hh); focus (simp [e1, e2, e3, hg, h1, h2, h3, h4, h5, hp, w1, w2]; done)) | (refine wp_c (t := false) ?_ (fun hh => nomatch hh) (fun _ => ?_); focus (simp [e1, e2, e3, hg, h1, h2, h3, h4, h5, hp, w1, w2]; done)) | refine wp_bs ?_ | refine wp_b ?_ | refine wp_sr ?_ | refine wp_sx ?_ | refine wp_ret' ?_ | refine wp_skip' ?_ | refine wp_exit' ?_)
      simp [if_impl_IsConnectable, h1, hp]

theorem ev_IsTreeDegrees (d : List Int) (c : Bool) (hl : d.length ≤ 1000000) : Ev tb l_impl_IsTreeDegrees [] [L d c] [] ⟨Bo (treeD d), [], [], []⟩ := by
  have e1 := ev_lim (ev_IsConnectable d c hl)
  unfold treeD
  cases hc : conn d with
  | false =>
    rw [hc] at e1
    refine call_of_wp tb_impl_IsTreeDegrees rfl ?_
    repeat (first | refine wp_as ?_ | refine wp_ss ?_ | refine wp_rs (by simp [e1]; with_reducible rfl) (by simp; with_reducible rfl) ?_ | refine wp_reg (by simp [e1]; with_reducible rfl) (by simp; with_reducible rfl) ?_ | (refine wp_ct (t := true) ?_ (fun _ => ?_) (fun hh => nomatch hh); focus (simp [e1]; done)) | (refine wp_ct (t := false) ?_ (fun hh => nomatch hh) (fun _ => ?_); focus (simp [e1]; done)) | (refine wp_c (t := true) ?_ (fun _ => ?_) (fun hh => nomatch hh); focus (simp [e1]; done)) | (refine wp_c (t := false) ?_ (fun hh => nomatch hh) (fun _ => ?_); focus (simp [e1]; done)) | refine wp_bs ?_ | refine wp_b ?_ | refine wp_sr ?_ | refine wp_sx ?_ | refine wp_ret' ?_ | refine wp_skip' ?_ | refine wp_exit' ?_)
    simp [if_impl_IsTreeDegrees]
  | true =>
  rw [hc] at e1
  have hg : graphic d = true := by simp only [conn, Bool.and_eq_true] at hc; exact hc.1
  have hf := valid_few (graphic_valid hg)
  have h7 := hf.1
  have e2 := ev_lim (ev_sum d c hf.small)
  have w1 : IntKind.i64.wrap (2 * (d.length : Int)) = 2 * (d.length : Int) := wrap64 (by omega) (by omega)
  have w2 : IntKind.i64.wrap (2 * (d.length : Int) - 2) = 2 * (d.length : Int) - 2 := wrap64 (by omega) (by omega)
  refine call_of_wp tb_impl_IsTreeDegrees rfl ?_
  repeat (first | refine wp_as ?_ | refine wp_ss ?_ | refine wp_rs (by simp [e1, e2, w1, w2]; with_reducible rfl) (by simp; with_reducible rfl) ?_ | refine wp_reg (by simp [e1, e2, w1, w2]; with_reducible rfl) (by simp; with_reducible rfl) ?_ | (refine wp_ct (t := true) ?_ (fun _ => ?_) (fun hh => nomatch hh); focus (simp [e1, e2, w1, w2]; done)) | (refine wp_ct (t := false) ?_ (fun hh => nomatch hh) (fun _ => ?_); focus (simp [e1, e2, w1, w2]; done)) | (refine wp_c (t := true) ?_ (fun _ => ?_) (fun hh => nomatch hh); focus (simp [e1, e2, w1, w2]; done)) | (refine wp_c (t := false) ?_ (fun hh => nomatch hh) (fun _ => ?_); focus (simp [e1, e2, w1, w2]; done)) | refine wp_bs ?_ | refine wp_b ?_ | refine wp_sr ?_ | refine wp_sx ?_ | refine wp_ret' ?_ | refine wp_skip' ?_ | refine wp_exit' ?_)
  simp [if_impl_IsTreeDegrees]
  try rfl

def facN : Nat → Nat
  | 0 => 1
  | n + 1 => (n + 1) * facN n

theorem facN_pos : ∀ n, 0 < facN n
  | 0 => by decide
  | n + 1 => Nat.mul_pos (by omega) (facN_pos n)

theorem facN_small : ∀ n, n ≤ 7 → facN n ≤ 5040 := by decide

theorem ev_factorial : ∀ (n : Nat) (x : Int), x.toNat = n → n ≤ 7 → -1000 ≤ x → Ev tb l_impl_factorial [] [I x] [] ⟨I (facN n), [], [], []⟩ := by
  intro n
  induction n with
  | zero =>
    intro x hx h7 hx2
    have h1 : x < 2 := by omega
    refine call_of_wp tb_impl_factorial rfl ?_
    repeat (first | refine wp_as ?_ | refine wp_ss ?_ | refine wp_rs (by simp [h1]; with_reducible rfl) (by simp; with_reducible rfl) ?_ | refine wp_reg (by simp [h1]; with_reducible rfl) (by simp; with_reducible rfl) ?_ | (refine wp_ct (t := true) ?_ (fun _ => ?_) (fun hh => nomatch hh); focus (simp [h1]; done)) | (refine wp_ct (t := false) ?_ (fun hh => nomatch hh) (fun _ => ?_); focus (simp [h1]; done)) | (refine wp_c (t := true) ?_ (fun _ => ?_) (fun hh => nomatch hh); focus (simp [h1]; done)) | (refine wp_c (t := false) ?_ (fun hh => nomatch hh) (fun _ => ?_); focus (simp [h1]; done)) | refine wp_bs ?_ | refine wp_b ?_ | refine wp_sr ?_ | refine wp_sx ?_ | refine wp_ret' ?_ | refine wp_skip' ?_ | refine wp_exit' ?_)
    simp [if_impl_factorial, facN]
  | succ n ih =>
    intro x hx h7 hx2
    by_cases h1 : x < 2
    · have : n = 0 := by omega
      subst this
      refine call_of_wp tb_impl_factorial rfl ?_
      repeat (first | refine wp_as ?_ | refine wp_ss ?_ | refine wp_rs (by simp [h1]; with_reducible rfl) (by simp; with_reducible rfl) ?_ | refine wp_reg (by simp [h1]; with_reducible rfl) (by simp; with_reducible rfl) ?_ | (refine wp_ct (t := true) ?_ (fun _ => ?_) (fun hh => nomatch hh); focus (simp [h1]; done)) | (refine wp_ct (t := false) ?_ (fun hh => nomatch hh) (fun _ => ?_); focus (simp [h1]; done)) | (refine wp_c (t := true) ?_ (fun _ => ?_) (fun hh => nomatch hh); focus (simp [h1]; done)) | (refine wp_c (t := false) ?_ (fun hh => nomatch hh) (fun _ => ?_); focus (simp [h1]; done)) | refine wp_bs ?_ | refine wp_b ?_ | refine wp_sr ?_ | refine wp_sx ?_ | refine wp_ret' ?_ | refine wp_skip' ?_ | refine wp_exit' ?_)
      simp [if_impl_factorial, facN]
    · have e1 := ev_lim (ih (x - 1) (by omega) (by omega) (by omega))
      have hs := facN_small (n + 1) h7
      have w1 : IntKind.i64.wrap (x - 1) = x - 1 := wrap64 (by omega) (by omega)
      have hx3 : x * (facN n : Int) = (facN (n + 1) : Int) := by rw [facN, Int.natCast_mul]; congr 1; omega
      have w2 : IntKind.i64.wrap (facN (n + 1) : Int) = (facN (n + 1) : Int) := wrap64 (by omega) (by omega)
      refine call_of_wp tb_impl_factorial rfl ?_
      repeat (first | refine wp_as ?_ | refine wp_ss ?_ | refine wp_rs (by simp [h1, e1, w1, hx3, w2]; with_reducible rfl) (by simp; with_reducible rfl) ?_ | refine wp_reg (by simp [h1, e1, w1, hx3, w2]; with_reducible rfl) (by simp; with_reducible rfl) ?_ | (refine wp_ct (t := true) ?_ (fun _ => ?_) (fun hh => nomatch hh); focus (simp [h1, e1, w1, hx3, w2]; done)) | (refine wp_ct (t := false) ?_ (fun hh => nomatch hh) (fun _ => ?_); focus (simp [h1, e1, w1, hx3, w2]; done)) | (refine wp_c (t := true) ?_ (fun _ => ?_) (fun hh => nomatch hh); focus (simp [h1, e1, w1, hx3, w2]; done)) | (refine wp_c (t := false) ?_ (fun hh => nomatch hh) (fun _ => ?_); focus (simp [h1, e1, w1, hx3, w2]; done)) | refine wp_bs ?_ | refine wp_b ?_ | refine wp_sr ?_ | refine wp_sx ?_ | refine wp_ret' ?_ | refine wp_skip' ?_ | refine wp_exit' ?_)
      simp [if_impl_factorial]

def divs : List Int → Nat → Nat
  | [], o => o
  | x :: r, o => divs r (o / facN (x - 1).toNat)

def cntT (d : List Int) : Nat := divs d (facN ((d.length : Int) - 2).toNat)

theorem ct_div (d : List Int) (c : Bool) (hd : Few d) : ∀ (m i o : Nat), i + m = d.length → o ≤ 5040 →
    wp tb (.loop ic_impl_CountTrees_l11) { T := [(0, L d c), (3, I o), (18, L d c), (19, I d.length), (20, I i)], loc := [], M := [] }
      (fun ex st => ex = .exit 1 ∧ st = { T := [(0, L d c), (3, I (divs (d.drop i) o)), (18, L d c), (19, I d.length), (20, I d.length), (21, Bo false)], loc := [], M := [] }) := by
  intro m
  induction m with
  | zero =>
    intro i o hi ho
    obtain ⟨h1, h2⟩ := drop_end hi
    have h3 : i = d.length := hi
    subst h3
    refine wp_loop ?_
    repeat (first | refine wp_as ?_ | refine wp_ss ?_ | refine wp_rs (by simp; with_reducible rfl) (by simp; with_reducible rfl) ?_ | refine wp_reg (by simp; with_reducible rfl) (by simp; with_reducible rfl) ?_ | (refine wp_ct (t := true) ?_ (fun _ => ?_) (fun hh => nomatch hh); focus (simp; done)) | (refine wp_ct (t := false) ?_ (fun hh => nomatch hh) (fun _ => ?_); focus (simp; done)) | (refine wp_c (t := true) ?_ (fun _ => ?_) (fun hh => nomatch hh); focus (simp; done)) | (refine wp_c (t := false) ?_ (fun hh => nomatch hh) (fun _ => ?_); focus (simp; done)) | refine wp_bs ?_ | refine wp_b ?_ | refine wp_sr ?_ | refine wp_sx ?_ | refine wp_ret' ?_ | refine wp_skip' ?_ | refine wp_exit' ?_)
    rw [h2]; exact ⟨rfl, rfl⟩
  | succ m ih =>
    intro i o hi ho
    obtain ⟨hi2, h2, h3⟩ := drop_get hi
    have hx := hd.2 _ h3
    have hl := hd.1
    have w1 : IntKind.i64.wrap (d[i] - 1) = d[i] - 1 := wrap64 (by omega) (by omega)
    have w2 : IntKind.i64.wrap ((i : Int) + 1) = ((i + 1 : Nat) : Int) := wrapS (by omega)
    have e1 := ev_lim (ev_factorial (d[i] - 1).toNat (d[i] - 1) rfl (by omega) (by omega))
    have hfp := facN_pos (d[i] - 1).toNat
    have hle : o / facN (d[i] - 1).toNat ≤ o := Nat.div_le_self _ _
    rw [h2, divs]
    generalize facN (d[i] - 1).toNat = q at *
    have hq0 : ¬ q = 0 := by omega
    have hq : (o : Int).tdiv (q : Int) = ((o / q : Nat) : Int) := by
      rw [Int.tdiv_eq_ediv_of_nonneg (by omega)]; rfl
    generalize o / q = o' at *
    have w3 : IntKind.i64.wrap (o' : Int) = (o' : Int) := wrap64 (by omega) (by omega)
    refine wp_loop ?_
    repeat (first | refine wp_as ?_ | refine wp_ss ?_ | refine wp_rs (by simp [hi2, w1, w2, e1, hq0, hq, w3]; with_reducible rfl) (by simp; with_reducible rfl) ?_ | refine wp_reg (by simp [hi2, w1, w2, e1, hq0, hq, w3]; with_reducible rfl) (by simp; with_reducible rfl) ?_ | (refine wp_ct (t := true) ?_ (fun _ => ?_) (fun hh => nomatch hh); focus (simp [hi2, w1, w2, e1, hq0, hq, w3]; done)) | (refine wp_ct (t := false) ?_ (fun hh => nomatch hh) (fun _ => ?_); focus (simp [hi2, w1, w2, e1, hq0, hq, w3]; done)) | (refine wp_c (t := true) ?_ (fun _ => ?_) (fun hh => nomatch hh); focus (simp [hi2, w1, w2, e1, hq0, hq, w3]; done)) | (refine wp_c (t := false) ?_ (fun hh => nomatch hh) (fun _ => ?_); focus (simp [hi2, w1, w2, e1, hq0, hq, w3]; done)) | refine wp_bs ?_ | refine wp_b ?_ | refine wp_sr ?_ | refine wp_sx ?_ | refine wp_ret' ?_ | refine wp_skip' ?_ | refine wp_exit' ?_)
    exact ih (i + 1) o' (by omega) (by omega)

theorem ev_CountTrees (d : List Int) (c : Bool) (hv : valid d = true) : Ev tb l_impl_CountTrees [] [L d c] [] ⟨I (if treeD d then (cntT d : Int) else 0), [], [], []⟩ := by
  have hf := valid_few hv
  have h7 := hf.1
  have e1 := ev_lim (ev_ValidDegrees d c (by omega))
  rw [hv] at e1
  have e2 := ev_lim (ev_IsTreeDegrees d c (by omega))
  cases ht : treeD d with
  | false =>
    rw [ht] at e2
    refine call_of_wp tb_impl_CountTrees rfl ?_
    repeat (first | refine wp_as ?_ | refine wp_ss ?_ | refine wp_rs (by simp [e1, e2]; with_reducible rfl) (by simp; with_reducible rfl) ?_ | refine wp_reg (by simp [e1, e2]; with_reducible rfl) (by simp; with_reducible rfl) ?_ | (refine wp_ct (t := true) ?_ (fun _ => ?_) (fun hh => nomatch hh); focus (simp [e1, e2]; done)) | (refine wp_ct (t := false) ?_ (fun hh => nomatch hh) (fun _ => ?_); focus (simp [e1, e2]; done)) | (refine wp_c (t := true) ?_ (fun _ => ?_) (fun hh => nomatch hh); focus (simp [e1, e2]; done)) | (refine wp_c (t := false) ?_ (fun hh => nomatch hh) (fun _ => ?_); focus (simp [e1, e2]; done)) | refine wp_bs ?_ | refine wp_b ?_ | refine wp_sr ?_ | refine wp_sx ?_ | refine wp_ret' ?_ | refine wp_skip' ?_ | refine wp_exit' ?_)
    simp [if_impl_CountTrees]
  | true =>
  rw [ht] at e2
  have w1 : IntKind.i64.wrap ((d.length : Int) - 2) = (d.length : Int) - 2 := wrap64 (by omega) (by omega)
  have e3 := ev_lim (ev_factorial ((d.length : Int) - 2).toNat ((d.length : Int) - 2) rfl (by omega) (by omega))
  have hs := facN_small ((d.length : Int) - 2).toNat (by omega)
  rw [if_pos rfl, cntT]
  generalize facN ((d.length : Int) - 2).toNat = q at *
  refine call_of_wp tb_impl_CountTrees rfl ?_
  repeat (first | refine wp_as ?_ | refine wp_ss ?_ | refine wp_rs (by simp [e1, e2, w1, e3]; with_reducible rfl) (by simp; with_reducible rfl) ?_ | refine wp_reg (by simp [e1, e2, w1, e3]; with_reducible rfl) (by simp; with_reducible rfl) ?_ | (refine wp_ct (t := true) ?_ (fun _ => ?_) (fun hh => nomatch hh); focus (simp [e1, e2, w1, e3]; done)) | (refine wp_ct (t := false) ?_ (fun hh => nomatch hh) (fun _ => ?_); focus (simp [e1, e2, w1, e3]; done)) | (refine wp_c (t := true) ?_ (fun _ => ?_) (fun hh => nomatch hh); focus (simp [e1, e2, w1, e3]; done)) | (refine wp_c (t := false) ?_ (fun hh => nomatch hh) (fun _ => ?_); focus (simp [e1, e2, w1, e3]; done)) | refine wp_bs ?_ | refine wp_b ?_ | refine wp_sr ?_ | refine wp_sx ?_ | refine wp_ret' ?_ | refine wp_skip' ?_ | refine wp_exit' ?_)
  refine wp_imp (ct_div d c hf d.length 0 q (by simp) hs) ?_
  rintro ex st ⟨rfl, rfl⟩
  try simp only [if_true]
  repeat (first | refine wp_as ?_ | refine wp_ss ?_ | refine wp_rs (by simp; with_reducible rfl) (by simp; with_reducible rfl) ?_ | refine wp_reg (by simp; with_reducible rfl) (by simp; with_reducible rfl) ?_ | (refine wp_ct (t := true) ?_ (fun _ => ?_) (fun hh => nomatch hh); focus (simp; done)) | (refine wp_ct (t := false) ?_ (fun hh => nomatch hh) (fun _ => ?_); focus (simp; done)) | (refine wp_c (t := true) ?_ (fun _ => ?_) (fun hh => nomatch hh); focus (simp; done)) | (refine wp_c (t := false) ?_ (fun hh => nomatch hh) (fun _ => ?_); focus (simp; done)) | refine wp_bs ?_ | refine wp_b ?_ | refine wp_sr ?_ | refine wp_sx ?_ | refine wp_ret' ?_ | refine wp_skip' ?_ | refine wp_exit' ?_)
  simp [if_impl_CountTrees]

end Go.Idl

namespace Go.Idl

open Go

theorem ev_smallest (x : Int) (r : List Int) (c : Bool) (hl : r.length ≤ 1000000) : Ev tb l_spec_smallest [] [L (x :: r) c] [] ⟨I (least1 x r), [], [], []⟩ := by
  have loop : ∀ (m i : Nat) (y : Int), i + m = (x :: r).length → wp tb (.loop ic_spec_smallest_l6) { T := [(0, L (x :: r) c), (3, I y), (4, I i)], loc := [], M := [] }
      (fun ex st => ex = .exit 0 ∧ st = { T := [(0, L (x :: r) c), (3, I (least1 y ((x :: r).drop i))), (4, I (x :: r).length), (11, Bo false)], loc := [], M := [] }) := by
    generalize hd : x :: r = d at *
    have hdl : d.length ≤ 1000001 := by rw [← hd]; simp; omega
    intro m
    induction m with
    | zero =>
      intro i y hi
      obtain ⟨h1, h2⟩ := drop_end hi
      have h3 : i = d.length := hi
      subst h3
      refine wp_loop ?_
      repeat (first | refine wp_as ?_ | refine wp_ss ?_ | refine wp_rs (by simp; with_reducible rfl) (by simp; with_reducible rfl) ?_ | refine wp_reg (by simp; with_reducible rfl) (by simp; with_reducible rfl) ?_ | (refine wp_ct (t := true) ?_ (fun _ => ?_) (fun hh => nomatch hh); focus (simp; done)) | (refine wp_ct (t := false) ?_ (fun hh => nomatch hh) (fun _ => ?_); focus (simp; done)) | (refine wp_c (t := true) ?_ (fun _ => ?_) (fun hh => nomatch hh); focus (simp; done)) | (refine wp_c (t := false) ?_ (fun hh => nomatch hh) (fun _ => ?_); focus (simp; done)) | refine wp_bs ?_ | refine wp_b ?_ | refine wp_sr ?_ | refine wp_sx ?_ | refine wp_ret' ?_ | refine wp_skip' ?_ | refine wp_exit' ?_)
      rw [h2]; exact ⟨rfl, rfl⟩
    | succ m ih =>
      intro i y hi
      obtain ⟨hi2, h2, h3⟩ := drop_get hi
      have w2 : IntKind.i64.wrap ((i : Int) + 1) = ((i + 1 : Nat) : Int) := wrapS (by omega)
      have hm : (if d[i] < y then d[i] else y) = min y d[i] := by split <;> omega
      rw [h2, least1]
      refine wp_loop ?_
      repeat (first | refine wp_as ?_ | refine wp_ss ?_ | refine wp_rs (by simp [hi2, w2, hm]; with_reducible rfl) (by simp; with_reducible rfl) ?_ | refine wp_reg (by simp [hi2, w2, hm]; with_reducible rfl) (by simp; with_reducible rfl) ?_ | (refine wp_ct (t := true) ?_ (fun _ => ?_) (fun hh => nomatch hh); focus (simp [hi2, w2, hm]; done)) | (refine wp_ct (t := false) ?_ (fun hh => nomatch hh) (fun _ => ?_); focus (simp [hi2, w2, hm]; done)) | (refine wp_c (t := true) ?_ (fun _ => ?_) (fun hh => nomatch hh); focus (simp [hi2, w2, hm]; done)) | (refine wp_c (t := false) ?_ (fun hh => nomatch hh) (fun _ => ?_); focus (simp [hi2, w2, hm]; done)) | refine wp_bs ?_ | refine wp_b ?_ | refine wp_sr ?_ | refine wp_sx ?_ | refine wp_ret' ?_ | refine wp_skip' ?_ | refine wp_exit' ?_)
      exact ih (i + 1) (min y d[i]) (by omega)
  have hx : least1 x ((x :: r).drop 0) = least1 x r := by
    simp only [List.drop_zero, least1]
    congr 1; omega
  have hlo := loop (x :: r).length 0 x (by simp)
  rw [hx] at hlo
  refine call_of_wp tb_spec_smallest rfl ?_
  repeat (first | refine wp_as ?_ | refine wp_ss ?_ | refine wp_rs (by simp; with_reducible rfl) (by simp; with_reducible rfl) ?_ | refine wp_reg (by simp; with_reducible rfl) (by simp; with_reducible rfl) ?_ | (refine wp_ct (t := true) ?_ (fun _ => ?_) (fun hh => nomatch hh); focus (simp; done)) | (refine wp_ct (t := false) ?_ (fun hh => nomatch hh) (fun _ => ?_); focus (simp; done)) | (refine wp_c (t := true) ?_ (fun _ => ?_) (fun hh => nomatch hh); focus (simp; done)) | (refine wp_c (t := false) ?_ (fun hh => nomatch hh) (fun _ => ?_); focus (simp; done)) | refine wp_bs ?_ | refine wp_b ?_ | refine wp_sr ?_ | refine wp_sx ?_ | refine wp_ret' ?_ | refine wp_skip' ?_ | refine wp_exit' ?_)
  refine wp_imp hlo ?_
  rintro ex st ⟨rfl, rfl⟩
  try simp only [if_true]
  repeat (first | refine wp_as ?_ | refine wp_ss ?_ | refine wp_rs (by simp; with_reducible rfl) (by simp; with_reducible rfl) ?_ | refine wp_reg (by simp; with_reducible rfl) (by simp; with_reducible rfl) ?_ | (refine wp_ct (t := true) ?_ (fun _ => ?_) (fun hh => nomatch hh); focus (simp; done)) | (refine wp_ct (t := false) ?_ (fun hh => nomatch hh) (fun _ => ?_); focus (simp; done)) | (refine wp_c (t := true) ?_ (fun _ => ?_) (fun hh => nomatch hh); focus (simp; done)) | (refine wp_c (t := false) ?_ (fun hh => nomatch hh) (fun _ => ?_); focus (simp; done)) | refine wp_bs ?_ | refine wp_b ?_ | refine wp_sr ?_ | refine wp_sx ?_ | refine wp_ret' ?_ | refine wp_skip' ?_ | refine wp_exit' ?_)
  simp [if_spec_smallest]

/-- Degrees of trees, as the reference says. -/
def treeS (d : List Int) : Bool := valid d && (decide (d.length = 1) || (decide (1 < d.length) && (posAll d && decide (d.sum = 2 * ((d.length : Int) - 1)))))

theorem ev_spec_IsTreeDegrees (d : List Int) (c : Bool) (hl : d.length ≤ 1000000) : Ev tb l_spec_IsTreeDegrees [] [L d c] [] ⟨Bo (treeS d), [], [], []⟩ := by
  have e1 := ev_lim (ev_validDegrees d c hl)
  unfold treeS
  cases hv : valid d with
  | false =>
    rw [hv] at e1
    refine call_of_wp tb_spec_IsTreeDegrees rfl ?_
    repeat (first | refine wp_as ?_ | refine wp_ss ?_ | refine wp_rs (by simp [e1]; with_reducible rfl) (by simp; with_reducible rfl) ?_ | refine wp_reg (by simp [e1]; with_reducible rfl) (by simp; with_reducible rfl) ?_ | (refine wp_ct (t := true) ?_ (fun _ => ?_) (fun hh => nomatch hh); focus (simp [e1]; done)) | (refine wp_ct (t := false) ?_ (fun hh => nomatch hh) (fun _ => ?_); focus (simp [e1]; done)) | (refine wp_c (t := true) ?_ (fun _ => ?_) (fun hh => nomatch hh); focus (simp [e1]; done)) | (refine wp_c (t := false) ?_ (fun hh => nomatch hh) (fun _ => ?_); focus (simp [e1]; done)) | refine wp_bs ?_ | refine wp_b ?_ | refine wp_sr ?_ | refine wp_sx ?_ | refine wp_ret' ?_ | refine wp_skip' ?_ | refine wp_exit' ?_)
    simp [if_spec_IsTreeDegrees]
  | true =>
  rw [hv] at e1
  have hf := valid_few hv
  have e2 := ev_lim (ev_spec_sum d c hf.small)
  have h7 := hf.1
  have e4 : limF tb l_spec_isTreeDegrees [] [L d c] [] = some ⟨Bo (decide (d.length = 1) || (decide (1 < d.length) && (posAll d && decide (d.sum = 2 * ((d.length : Int) - 1))))), [], [], []⟩ := by
    refine ev_lim ?_
    cases d with
    | nil =>
      refine call_of_wp tb_spec_isTreeDegrees rfl ?_
      repeat (first | refine wp_as ?_ | refine wp_ss ?_ | refine wp_rs (by simp; with_reducible rfl) (by simp; with_reducible rfl) ?_ | refine wp_reg (by simp; with_reducible rfl) (by simp; with_reducible rfl) ?_ | (refine wp_ct (t := true) ?_ (fun _ => ?_) (fun hh => nomatch hh); focus (simp; done)) | (refine wp_ct (t := false) ?_ (fun hh => nomatch hh) (fun _ => ?_); focus (simp; done)) | (refine wp_c (t := true) ?_ (fun _ => ?_) (fun hh => nomatch hh); focus (simp; done)) | (refine wp_c (t := false) ?_ (fun hh => nomatch hh) (fun _ => ?_); focus (simp; done)) | refine wp_bs ?_ | refine wp_b ?_ | refine wp_sr ?_ | refine wp_sx ?_ | refine wp_ret' ?_ | refine wp_skip' ?_ | refine wp_exit' ?_)
      simp [if_spec_isTreeDegrees]
    | cons x r =>
    have e3 := ev_lim (ev_smallest x r c (by simp at h7; omega))
    have w1 : IntKind.i64.wrap (r.length : Int) = (r.length : Int) := wrap64 (by omega) (by simp at h7; omega)
    have w2 : IntKind.i64.wrap (2 * (r.length : Int)) = 2 * (r.length : Int) := wrap64 (by omega) (by simp at h7; omega)
    by_cases h1 : r = []
    · subst h1
      refine call_of_wp tb_spec_isTreeDegrees rfl ?_
      repeat (first | refine wp_as ?_ | refine wp_ss ?_ | refine wp_rs (by simp; with_reducible rfl) (by simp; with_reducible rfl) ?_ | refine wp_reg (by simp; with_reducible rfl) (by simp; with_reducible rfl) ?_ | (refine wp_ct (t := true) ?_ (fun _ => ?_) (fun hh => nomatch hh); focus (simp; done)) | (refine wp_ct (t := false) ?_ (fun hh => nomatch hh) (fun _ => ?_); focus (simp; done)) | (refine wp_c (t := true) ?_ (fun _ => ?_) (fun hh => nomatch hh); focus (simp; done)) | (refine wp_c (t := false) ?_ (fun hh => nomatch hh) (fun _ => ?_); focus (simp; done)) | refine wp_bs ?_ | refine wp_b ?_ | refine wp_sr ?_ | refine wp_sx ?_ | refine wp_ret' ?_ | refine wp_skip' ?_ | refine wp_exit' ?_)
      simp [if_spec_isTreeDegrees]
    · have h2 : ¬ r.length = 0 := fun h => h1 (List.length_eq_zero_iff.1 h)
      have h3 : ¬ (r.length : Int) = 0 := by omega
      have h4 : ¬ (r.length : Int) + 1 = 1 := by omega
      have h5 : (1 : Int) < (r.length : Int) + 1 := by omega
      have h6 : (0 : Int) < (r.length : Int) := by omega
      have h6' : 0 < r.length := by omega
      rw [show posAll (x :: r) = decide (0 < least1 x r) from min_pos.symm]
      by_cases hp : 0 < least1 x r
      · refine call_of_wp tb_spec_isTreeDegrees rfl ?_
        repeat (first | refine wp_as ?_ | refine wp_ss ?_ | refine wp_rs (by simp [e2, e3, h1, h2, h3, h4, h5, h6, hp, w1, w2]; with_reducible rfl) (by simp; with_reducible rfl) ?_ | refine wp_reg (by simp [e2, e3, h1, h2, h3, h4, h5, h6, hp, w1, w2]; with_reducible rfl) (by simp; with_reducible rfl) ?_ | (refine wp_ct (t := true) ?_ (fun _ => ?_) (fun hh => nomatch hh); focus (simp [e2, e3, h1, h2, h3, h4, h5, h6, hp, w1, w2]; done)) | (refine wp_ct (t := false) ?_ (fun hh => nomatch hh) (fun _ => ?_); focus (simp [e2, e3, h1, h2, h3, h4, h5, h6, hp, w1, w2]; done)) | (refine wp_c (t := true) ?_ (fun _ => ?_) (fun hh => nomatch hh); focus (simp [e2, e3, h1, h2, h3, h4, h5, h6, hp, w1, w2]; done)) | (refine wp_c (t := false) ?_ (fun hh => nomatch hh) (fun _ => ?_); focus (simp [e2, e3, h1, h2, h3, h4, h5, h6, hp, w1, w2]; done)) | refine wp_bs ?_ | refine wp_b ?_ | refine wp_sr ?_ | refine wp_sx ?_ | refine wp_ret' ?_ | refine wp_skip' ?_ | refine wp_exit' ?_)
        simp [if_spec_isTreeDegrees, h1, hp, h6']
        try rfl
      · refine call_of_wp tb_spec_isTreeDegrees rfl ?_
        repeat (first | refine wp_as ?_ | refine wp_ss ?_ | refine wp_rs (by simp [e2, e3, h1, h2, h3, h4, h5, h6, hp, w1, w2]; with_reducible rfl) (by simp; with_reducible rfl) ?_ | refine wp_reg (by simp [e2, e3, h1, h2, h3, h4, h5, h6, hp, w1, w2]; with_reducible rfl) (by simp; with_reducible rfl) ?_ | (refine wp_ct (t := true) ?_ (fun _ => ?_) (fun hh => nomatch hh); focus (simp [e2, e3, h1, h2, h3, h4, h5, h6, hp, w1, w2]; done)) | (refine wp_ct (t := false) ?_ (fun hh => nomatch hh) (fun _ => ?_); focus (simp [e2, e3, h1, h2, h3, h4, h5, h6, hp, w1, w2]; done)) | (refine wp_c (t := true) ?_ (fun _ => ?_) (fun hh => nomatch hh); focus (simp [e2, e3, h1, h2, h3, h4, h5, h6, hp, w1, w2]; done)) | (refine wp_c (t := false) ?_ (fun hh => nomatch hh) (fun _ => ?_); focus (simp [e2, e3, h1, h2, h3, h4, h5, h6, hp, w1, w2]; done)) | refine wp_bs ?_ | refine wp_b ?_ | refine wp_sr ?_ | refine wp_sx ?_ | refine wp_ret' ?_ | refine wp_skip' ?_ | refine wp_exit' ?_)
        simp [if_spec_isTreeDegrees, h1, hp]
  refine call_of_wp tb_spec_IsTreeDegrees rfl ?_
  repeat (first | refine wp_as ?_ | refine wp_ss ?_ | refine wp_rs (by simp [e1, e4]; with_reducible rfl) (by simp; with_reducible rfl) ?_ | refine wp_reg (by simp [e1, e4]; with_reducible rfl) (by simp; with_reducible rfl) ?_ | (refine wp_ct (t := true) ?_ (fun _ => ?_) (fun hh => nomatch hh); focus (simp [e1, e4]; done)) | (refine wp_ct (t := false) ?_ (fun hh => nomatch hh) (fun _ => ?_); focus (simp [e1, e4]; done)) | (refine wp_c (t := true) ?_ (fun _ => ?_) (fun hh => nomatch hh); focus (simp [e1, e4]; done)) | (refine wp_c (t := false) ?_ (fun hh => nomatch hh) (fun _ => ?_); focus (simp [e1, e4]; done)) | refine wp_bs ?_ | refine wp_b ?_ | refine wp_sr ?_ | refine wp_sx ?_ | refine wp_ret' ?_ | refine wp_skip' ?_ | refine wp_exit' ?_)
  simp [if_spec_IsTreeDegrees]

/-- What the law says. -/
def TreeLaw (d : List Int) : Bool := (treeD d == treeS d) && (!treeD d || decide (0 < cntT d))

theorem treeD_no {d : List Int} (h : valid d = false) : treeD d = false := by simp [treeD, conn, graphic, h]

theorem ev_FnIsTreeDegrees (law : ∀ d, valid d = true → TreeLaw d = true) (code : List Int) (c : Bool) (h : ∀ x ∈ code, 0 ≤ x ∧ x ≤ 255) :
    Ev tb l_laws_FnIsTreeDegrees [] [.lst 1 (bytes code) c] [] ⟨Bo true, [], [], []⟩ := by
  by_cases hc : (1048576 : Int) < code.length
  · refine call_of_wp tb_laws_FnIsTreeDegrees rfl ?_
    repeat (first | refine wp_as ?_ | refine wp_ss ?_ | refine wp_rs (by simp [hc]; with_reducible rfl) (by simp; with_reducible rfl) ?_ | refine wp_reg (by simp [hc]; with_reducible rfl) (by simp; with_reducible rfl) ?_ | (refine wp_ct (t := true) ?_ (fun _ => ?_) (fun hh => nomatch hh); focus (simp [hc]; done)) | (refine wp_ct (t := false) ?_ (fun hh => nomatch hh) (fun _ => ?_); focus (simp [hc]; done)) | (refine wp_c (t := true) ?_ (fun _ => ?_) (fun hh => nomatch hh); focus (simp [hc]; done)) | (refine wp_c (t := false) ?_ (fun hh => nomatch hh) (fun _ => ?_); focus (simp [hc]; done)) | refine wp_bs ?_ | refine wp_b ?_ | refine wp_sr ?_ | refine wp_sx ?_ | refine wp_ret' ?_ | refine wp_skip' ?_ | refine wp_exit' ?_)
    simp [if_laws_FnIsTreeDegrees]
  obtain ⟨d, hd, hlo, e1⟩ := ev_DrawIsTreeDegrees code c h (by omega)
  have v1 := ev_lim (ev_ValidDegrees d false (by omega))
  have e2 := ev_lim (ev_IsTreeDegrees d false (by omega))
  have e3 := ev_lim (ev_spec_IsTreeDegrees d false (by omega))
  cases hv : valid d with
  | false =>
    rw [hv] at v1
    rw [treeD_no hv] at e2
    rw [show treeS d = false by simp [treeS, hv]] at e3
    refine call_of_wp tb_laws_FnIsTreeDegrees rfl ?_
    repeat (first | refine wp_as ?_ | refine wp_ss ?_ | refine wp_rs (by simp [hc, e1, e2, e3, v1]; with_reducible rfl) (by simp; with_reducible rfl) ?_ | refine wp_reg (by simp [hc, e1, e2, e3, v1]; with_reducible rfl) (by simp; with_reducible rfl) ?_ | (refine wp_ct (t := true) ?_ (fun _ => ?_) (fun hh => nomatch hh); focus (simp [hc, e1, e2, e3, v1]; done)) | (refine wp_ct (t := false) ?_ (fun hh => nomatch hh) (fun _ => ?_); focus (simp [hc, e1, e2, e3, v1]; done)) | (refine wp_c (t := true) ?_ (fun _ => ?_) (fun hh => nomatch hh); focus (simp [hc, e1, e2, e3, v1]; done)) | (refine wp_c (t := false) ?_ (fun hh => nomatch hh) (fun _ => ?_); focus (simp [hc, e1, e2, e3, v1]; done)) | refine wp_bs ?_ | refine wp_b ?_ | refine wp_sr ?_ | refine wp_sx ?_ | refine wp_ret' ?_ | refine wp_skip' ?_ | refine wp_exit' ?_)
    simp [if_laws_FnIsTreeDegrees]
  | true =>
  rw [hv] at v1
  have hl := law d hv
  simp only [TreeLaw, Bool.and_eq_true, beq_iff_eq, Bool.or_eq_true, Bool.not_eq_true', decide_eq_true_eq] at hl
  obtain ⟨hl1, hl2⟩ := hl
  rw [← hl1] at e3
  have e4 := ev_lim (ev_CountTrees d false hv)
  cases ht : treeD d with
  | false =>
    rw [ht] at e2 e3 e4
    refine call_of_wp tb_laws_FnIsTreeDegrees rfl ?_
    repeat (first | refine wp_as ?_ | refine wp_ss ?_ | refine wp_rs (by simp [hc, e1, e2, e3, v1, e4]; with_reducible rfl) (by simp; with_reducible rfl) ?_ | refine wp_reg (by simp [hc, e1, e2, e3, v1, e4]; with_reducible rfl) (by simp; with_reducible rfl) ?_ | (refine wp_ct (t := true) ?_ (fun _ => ?_) (fun hh => nomatch hh); focus (simp [hc, e1, e2, e3, v1, e4]; done)) | (refine wp_ct (t := false) ?_ (fun hh => nomatch hh) (fun _ => ?_); focus (simp [hc, e1, e2, e3, v1, e4]; done)) | (refine wp_c (t := true) ?_ (fun _ => ?_) (fun hh => nomatch hh); focus (simp [hc, e1, e2, e3, v1, e4]; done)) | (refine wp_c (t := false) ?_ (fun hh => nomatch hh) (fun _ => ?_); focus (simp [hc, e1, e2, e3, v1, e4]; done)) | refine wp_bs ?_ | refine wp_b ?_ | refine wp_sr ?_ | refine wp_sx ?_ | refine wp_ret' ?_ | refine wp_skip' ?_ | refine wp_exit' ?_)
    simp [if_laws_FnIsTreeDegrees]
  | true =>
    rw [ht] at e2 e3 e4
    have hcn : conn d = true := by simp only [treeD, Bool.and_eq_true] at ht; exact ht.1
    have hgr : graphic d = true := by simp only [conn, Bool.and_eq_true] at hcn; exact hcn.1
    have e5 := ev_lim (ev_IsConnectable d false (by omega))
    have e6 := ev_lim (ev_IsGraphic d false (by omega))
    rw [hcn] at e5
    rw [hgr] at e6
    have hct : (0 : Int) < (cntT d : Int) := by
      rcases hl2 with h | h
      · rw [ht] at h; cases h
      · omega
    have hct2 : 0 < cntT d := by omega
    rw [if_pos rfl] at e4
    refine call_of_wp tb_laws_FnIsTreeDegrees rfl ?_
    repeat (first | refine wp_as ?_ | refine wp_ss ?_ | refine wp_rs (by simp [hc, e1, e2, e3, v1, e4, e5, e6, hct, hct2]; with_reducible rfl) (by simp; with_reducible rfl) ?_ | refine wp_reg (by simp [hc, e1, e2, e3, v1, e4, e5, e6, hct, hct2]; with_reducible rfl) (by simp; with_reducible rfl) ?_ | (refine wp_ct (t := true) ?_ (fun _ => ?_) (fun hh => nomatch hh); focus (simp [hc, e1, e2, e3, v1, e4, e5, e6, hct, hct2]; done)) | (refine wp_ct (t := false) ?_ (fun hh => nomatch hh) (fun _ => ?_); focus (simp [hc, e1, e2, e3, v1, e4, e5, e6, hct, hct2]; done)) | (refine wp_c (t := true) ?_ (fun _ => ?_) (fun hh => nomatch hh); focus (simp [hc, e1, e2, e3, v1, e4, e5, e6, hct, hct2]; done)) | (refine wp_c (t := false) ?_ (fun hh => nomatch hh) (fun _ => ?_); focus (simp [hc, e1, e2, e3, v1, e4, e5, e6, hct, hct2]; done)) | refine wp_bs ?_ | refine wp_b ?_ | refine wp_sr ?_ | refine wp_sx ?_ | refine wp_ret' ?_ | refine wp_skip' ?_ | refine wp_exit' ?_)
    simp [if_laws_FnIsTreeDegrees]

end Go.Idl

namespace Go.Idl

def prodF : List Int → Nat
  | [] => 1
  | x :: r => facN (x - 1).toNat * prodF r

theorem prodF_perm {xs ys : List Int} (h : xs.Perm ys) : prodF xs = prodF ys := by
  induction h with
  | nil => rfl
  | cons x _ ih => rw [prodF, prodF, ih]
  | swap x y r => rw [prodF, prodF, prodF, prodF, Nat.mul_left_comm]
  | trans _ _ h1 h2 => rw [h1, h2]

theorem divs_prod : ∀ (d : List Int) (o : Nat), divs d o = o / prodF d
  | [], o => by simp [divs, prodF]
  | x :: r, o => by rw [divs, divs_prod r, prodF, Nat.div_div_eq_div_mul]

theorem prodF_pos : ∀ d : List Int, 0 < prodF d
  | [] => by decide
  | x :: r => Nat.mul_pos (facN_pos _) (prodF_pos r)

def chkT (s : List Int) : Bool := !(decide (s.sum = 2 * ((s.length : Int) - 1)) && posAll s) || (noneNeg (slS s) && decide (prodF s ≤ facN ((s.length : Int) - 2).toNat))

set_option maxRecDepth 100000 in
theorem chkT_all : (List.range 8).all (fun n => allD chkT n (n - 1) []) = true := by kernel_rfl

theorem posAll_perm {xs ys : List Int} (h : xs.Perm ys) : posAll xs = posAll ys := by
  rw [Bool.eq_iff_iff, posAll, posAll, List.all_eq_true, List.all_eq_true]
  exact ⟨fun h1 x hx => h1 x (h.mem_iff.2 hx), fun h1 x hx => h1 x (h.mem_iff.1 hx)⟩

theorem treeLaw (d : List Int) (h : valid d = true) : TreeLaw d = true := by
  have h1 := (valid_few h).1
  have h2 := valid_mem h
  have hc := List.all_eq_true.1 chkT_all d.length (List.mem_range.2 (by omega))
  have h3 := allD_ok chkT d.length (d.length - 1) [] (fall d) hc (fall_len d) (fall_desc d) (fun x hx => by
    have := h2 x (fall_mem.1 hx)
    omega)
  simp only [List.reverse_nil, List.nil_append, chkT, fall_sum, fall_len, posAll_perm (fall_perm d), prodF_perm (fall_perm d), ← slacks_S] at h3
  simp only [TreeLaw, Bool.and_eq_true, beq_iff_eq, Bool.or_eq_true, Bool.not_eq_true', decide_eq_true_eq]
  simp only [Bool.or_eq_true, Bool.not_eq_true', Bool.and_eq_false_iff, Bool.and_eq_true, decide_eq_true_eq, decide_eq_false_iff_not] at h3
  have hgr : ∀ hs : d.sum = 2 * ((d.length : Int) - 1), noneNeg (slacks d) = true → graphic d = true := fun hs hn => by
    rw [graphic, h]
    have : d.sum % 2 = 0 := by omega
    simp only [this, decide_true, Bool.and_true, Bool.true_and]
    exact hn
  by_cases hd0 : d.length = 0
  · have : d = [] := List.length_eq_zero_iff.1 hd0
    subst this
    decide
  by_cases hd1 : d.length = 1
  · match d, hd1 with
    | [x], _ =>
      have := h2 x (by simp)
      have : x = 0 := by simp at this; omega
      subst this
      decide +kernel
  by_cases hs : d.sum = 2 * ((d.length : Int) - 1)
  rotate_left
  · have ht : treeD d = false := by
      simp only [treeD, Bool.and_eq_false_iff, decide_eq_false_iff_not]; exact .inr (by omega)
    rw [ht]
    refine ⟨?_, .inl rfl⟩
    simp [treeS, hd1, hs]
  cases hp : posAll d with
  | false =>
    have ht : treeD d = false := by simp [treeD, conn, hp, hd1]
    rw [ht]
    refine ⟨?_, .inl rfl⟩
    simp [treeS, hd1, hp]
  | true =>
    rcases h3 with h3 | ⟨h3, h4⟩
    · rcases h3 with h3 | h3
      · exact absurd hs h3
      · rw [hp] at h3; cases h3
    · have ht : treeD d = true := by
        simp only [treeD, conn, hgr hs h3, hp, Bool.or_true, Bool.true_and, Bool.and_eq_true, decide_eq_true_eq]
        exact ⟨⟨by omega, by omega⟩, by omega⟩
      rw [ht]
      refine ⟨?_, .inr ?_⟩
      · simp only [treeS, h, hp, hs, Bool.true_and, decide_true, Bool.and_true]
        symm
        simp only [Bool.or_eq_true, decide_eq_true_eq]
        exact .inr (by omega)
      · rw [cntT, divs_prod]
        exact Nat.div_pos h4 (prodF_pos d)

end Go.Idl

