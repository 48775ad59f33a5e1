/- Part 2 of a proof by an ideal interpreter of the code: its definitions and lemmas. Conditions: none. -/
import Derived.Below
import Derived.LoopN
import Derived.Orders
import Derived.Scope
import Derived.Test.YtlbldcibnhgekaaA1
set_option linter.all false
set_option linter.unusedVariables false
set_option linter.unusedSimpArgs false
/- Orders of a region: swaps. Conditions: none (definitions and lemmas). -/
namespace Go.Idl
open Go

def QF : Exit → Act → World → Prop := fun _ _ _ => False

/-- One value at this world. -/
def YieldsAt (P : Program) (ops : Array Oper) (o : Oper) (v : Value) (a : Act) (w : World) : Prop :=
  (Region.wanted o (yielded ops a.tmps) = true ∧ (execOp a.eval o).run P w = .ok (.value v) w) ∨ (Region.wanted o (yielded ops a.tmps) = false ∧ v = undef)

/-- A walk along a list of operations: each that only computes, or only reads, yields; the others step. -/
def wpY (P : Program) (ops : Array Oper) (cls : Nat → Cls) (K : Act → World → Prop) : List Nat → Act → World → Prop
  | [], a, w => K a w
  | i :: rest, a, w => ∃ o, ops[i]? = some o ∧ match cls i with
    | .reg => ∃ v, Yields P ops o v a ∧ wpY P ops cls K rest (a.put o.dst v) w
    | .ld => ∃ v, YieldsAt P ops o v a w ∧ wpY P ops cls K rest (a.put o.dst v) w
    | .oth => wpOp P ops QF i (wpY P ops cls K rest) a w

section
variable {P : Program} {ops : Array Oper} {cls : Nat → Cls} {K K' : Act → World → Prop} {a : Act} {w : World}

theorem YieldsAt.wpOp {Q : Exit → Act → World → Prop} {i : Nat} {o : Oper} {v : Value} (hi : ops[i]? = some o) (hy : YieldsAt P ops o v a w) (h : K (a.put o.dst v) w) : wpOp P ops Q i K a w := by
  unfold Go.wpOp
  simp only [hi]
  rcases hy with ⟨hw, hv⟩ | ⟨hw, rfl⟩
  · simp only [hw, if_true, Oper.wp, hv, Oper.upon]; exact .inl h
  · simp only [hw, Bool.false_eq_true, if_false]; exact h

theorem YieldsAt.of_same {o : Oper} {v : Value} {a' : Act} (hy : YieldsAt P ops o v a w) (he : execOp a'.eval o = execOp a.eval o)
    (hw : Region.wanted o (yielded ops a'.tmps) = Region.wanted o (yielded ops a.tmps)) : YieldsAt P ops o v a' w := by
  unfold YieldsAt at *
  rw [he, hw]; exact hy

theorem _root_.Go.Yields.atW {o : Oper} {v : Value} (hy : Yields P ops o v a) (w : World) : YieldsAt P ops o v a w := by
  rcases hy with ⟨h, hv⟩ | h
  · exact .inl ⟨h, hv w⟩
  · exact .inr h

theorem YieldsAt.det {o : Oper} {v v' : Value} (hy : YieldsAt P ops o v a w) (hy' : YieldsAt P ops o v' a w) : v = v' := by
  rcases hy with ⟨h, hv⟩ | ⟨h, rfl⟩ <;> rcases hy' with ⟨h', hv'⟩ | ⟨h', rfl⟩
  · rw [hv] at hv'; simpa using hv'
  · rw [h] at h'; cases h'
  · rw [h] at h'; cases h'
  · rfl

theorem wpOp_QF {Q : Exit → Act → World → Prop} {i : Nat} (h : wpOp P ops QF i K a w) : wpOp P ops Q i K a w := by
  unfold wpOp at *
  split at h
  · exact h
  · split at h
    · rename_i o ho hw
      simp only [hw, if_true]
      rcases h with h | ⟨_, a0, w0, h⟩
      · left
        unfold Oper.wp at *
        generalize (execOp a.eval o).run P w = r at *
        cases r with
        | ok n w' =>
          cases n <;> simp only [Oper.upon] at h ⊢ <;> first
            | exact h
            | (refine Calls.mono h fun e w'' he => ?_
               cases e with
               | returned v => exact he
               | panicked c => exact he.elim
               | outgrown => obtain ⟨_, _, he⟩ := he; exact he.elim)
        | halt x w' => cases x <;> simp only [Oper.upon] at h ⊢ <;> exact h.elim
      · exact h.elim
    · rename_i o ho hw
      simp only [hw, Bool.false_eq_true, if_false]
      exact h

theorem wpY_mono {l : List Nat} (hK : ∀ a w, K a w → K' a w) : ∀ {a : Act} {w : World}, wpY P ops cls K l a w → wpY P ops cls K' l a w := by
  induction l with
  | nil => intro a w h; exact hK a w h
  | cons i l ih =>
    intro a w h
    obtain ⟨o, ho, h⟩ := h
    refine ⟨o, ho, ?_⟩
    split at h
    · obtain ⟨v, hy, h⟩ := h; exact ⟨v, hy, ih h⟩
    · obtain ⟨v, hy, h⟩ := h; exact ⟨v, hy, ih h⟩
    · exact wpOp_mono (fun _ _ => ih) h

theorem wpY_tail {i : Nat} {l l' : List Nat} (hK : ∀ a w, wpY P ops cls K l a w → wpY P ops cls K l' a w) (h : wpY P ops cls K (i :: l) a w) : wpY P ops cls K (i :: l') a w := by
  obtain ⟨o, ho, h⟩ := h
  refine ⟨o, ho, ?_⟩
  split at h
  · obtain ⟨v, hy, h⟩ := h; exact ⟨v, hy, hK _ _ h⟩
  · obtain ⟨v, hy, h⟩ := h; exact ⟨v, hy, hK _ _ h⟩
  · exact wpOp_mono hK h

theorem wpY_ops {Q : Exit → Act → World → Prop} {l : List Nat} (hK : ∀ a w, K a w → Q .normal a w) : ∀ {a : Act} {w : World}, wpY P ops cls K l a w → wpOps P ops Q l a w := by
  induction l with
  | nil => intro a w h; exact hK a w h
  | cons i l ih =>
    intro a w h
    obtain ⟨o, ho, h⟩ := h
    rw [wpOps_cons]
    split at h
    · obtain ⟨v, hy, h⟩ := h; exact hy.wpOp ho (ih h)
    · obtain ⟨v, hy, h⟩ := h; exact hy.wpOp ho (ih h)
    · exact wpOp_QF (wpOp_mono (fun _ _ => ih) h)

def isSel : Op → Bool
  | .select .. => true
  | _ => false
theorem isSel_ne {o : Oper} (h : isSel o.op = false) : ∀ cs b, o.op ≠ .select cs b := fun cs b hh => by rw [hh] at h; cases h

/-- What an operation leaves of the temporaries that another one looks at. -/
theorem Apart.put {x y : Oper} (h : x.apart ops y = true) (hs : isSel y.op = false) (a : Act) (v : Value) :
    execOp (a.put x.dst v).eval y = execOp a.eval y ∧ Region.wanted y (yielded ops (a.put x.dst v).tmps) = Region.wanted y (yielded ops a.tmps) := by
  obtain ⟨h1, h2, h3⟩ := Oper.apart_spec h
  exact ⟨execOp_put y (isSel_ne hs) a x.dst v h1, wanted_put y a x.dst v h1⟩

theorem apart_symm {x y : Oper} (h : x.apart ops y = true) : y.apart ops x = true := by
  obtain ⟨h1, h2, h3⟩ := Oper.apart_spec h
  unfold Oper.apart
  simp only [Bool.and_eq_true]
  constructor
  · cases hd : y.dst with
    | none => rfl
    | some d =>
      have a1 := h3 d hd
      have a2 : x.dst ≠ some d := fun hx => h2 d hx hd
      simp only [Bool.and_eq_true, Bool.not_eq_true', bne_iff_ne, ne_eq]
      exact ⟨by simpa using a1, a2⟩
  · cases hd : x.dst with
    | none => rfl
    | some d => simpa using h1 d hd

/-- A step of the second one, backwards over the first. -/
theorem wpOp_back {i : Nat} {x y : Oper} (hi : ops[i]? = some x) (hap : x.apart ops y = true) (hsx : isSel x.op = false) (hsy : isSel y.op = false)
    (h : wpOp P ops QF i (fun a' w' => ∃ v, Yields P ops y v a' ∧ K (a'.put y.dst v) w') a w) : ∃ v, Yields P ops y v a ∧ wpOp P ops QF i K (a.put y.dst v) w := by
  obtain ⟨h1, h2, h3⟩ := Oper.apart_spec hap
  have hap' := apart_symm hap
  have back : ∀ (a : Act) u v, Yields P ops y v (a.put x.dst u) → Yields P ops y v a := fun a u v hy =>
    let ⟨e1, e2⟩ := Apart.put hap hsy a u
    hy.of_same e1.symm e2.symm
  have det : ∀ {a : Act} {v v' : Value}, Yields P ops y v a → Yields P ops y v' a → v = v' := fun hy hy' => (hy.atW w).det (hy'.atW w)
  have keepD : ∀ {a : Act} {d v}, Yields P ops y v { a with defers := d :: a.defers } → Yields P ops y v a := fun hy => hy.of_same rfl rfl
  have step : ∀ {u w'}, (∃ v, Yields P ops y v (a.put x.dst u) ∧ K ((a.put x.dst u).put y.dst v) w') → ∃ v, Yields P ops y v a ∧ K ((a.put y.dst v).put x.dst u) w' := by
    rintro u w' ⟨v, hy, hk⟩
    refine ⟨v, back a u v hy, ?_⟩
    rw [← Act.put_comm a u v h2]; exact hk
  unfold wpOp at h
  simp only [hi] at h
  obtain ⟨e1, e2⟩ : (∀ v, execOp (a.put y.dst v).eval x = execOp a.eval x) ∧ (∀ v, Region.wanted x (yielded ops (a.put y.dst v).tmps) = Region.wanted x (yielded ops a.tmps)) :=
    ⟨fun v => (Apart.put hap' hsx a v).1, fun v => (Apart.put hap' hsx a v).2⟩
  split at h
  · rename_i hw
    rcases h with h | ⟨_, a0, w0, h⟩
    rotate_left
    · exact h.elim
    unfold Oper.wp at h
    have fin : ∀ v, (x.upon P (a.put y.dst v) K QF ((execOp a.eval x).run P w)) → wpOp P ops QF i K (a.put y.dst v) w := fun v hh => by
      unfold wpOp
      simp only [hi, e2, hw, if_true]
      exact .inl (by unfold Oper.wp; rw [e1]; exact hh)
    generalize hr : (execOp a.eval x).run P w = r at *
    cases r with
    | ok n w' =>
      cases n <;> simp only [Oper.upon] at h
      case value u =>
        obtain ⟨v, hy, hk⟩ := step h
        exact ⟨v, hy, fin v (by simp only [Oper.upon]; exact hk)⟩
      case skip =>
        obtain ⟨v, hy, hk⟩ := step h
        exact ⟨v, hy, fin v (by simp only [Oper.upon]; exact hk)⟩
      case defer d =>
        obtain ⟨v, hy, hk⟩ := h
        have hy' : Yields P ops y v a := back a undef v (by rw [← Act.put_defers] at hy; exact keepD hy)
        refine ⟨v, hy', fin v ?_⟩
        simp only [Oper.upon]
        rw [Act.put_defers, ← Act.put_comm _ undef v h2]
        exact hk
      case enter f args =>
        obtain ⟨e, w1, fr, he, -⟩ := h []
        cases e with
        | panicked c => exact he.elim
        | outgrown => obtain ⟨_, _, he⟩ := he; exact he.elim
        | returned u =>
          obtain ⟨v, hy, hk⟩ := step he
          refine ⟨v, hy, fin v ?_⟩
          simp only [Oper.upon]
          refine Calls.mono h fun e w2 he2 => ?_
          cases e with
          | panicked c => exact he2.elim
          | outgrown => obtain ⟨_, _, he2⟩ := he2; exact he2.elim
          | returned u2 =>
            obtain ⟨v2, hy2, hk2⟩ := step he2
            have := det hy hy2
            subst this; exact hk2
      case row row args =>
        obtain ⟨u, w1, he, -⟩ := h default []
        obtain ⟨v, hy, hk⟩ := step he
        refine ⟨v, hy, fin v ?_⟩
        simp only [Oper.upon]
        refine Rows.mono h fun u2 w2 he2 => ?_
        obtain ⟨v2, hy2, hk2⟩ := step he2
        have := det hy hy2
        subst this; exact hk2
    | halt z w' => cases z <;> simp only [Oper.upon] at h <;> exact h.elim
  · rename_i hw
    obtain ⟨v, hy, hk⟩ := step h
    refine ⟨v, hy, ?_⟩
    unfold wpOp
    simp only [hi, e2, hw, Bool.false_eq_true, if_false]
    exact hk

/-- Two operations that may stand in either order. -/
def indepB (ops : Array Oper) (cls : Nat → Cls) (i j : Nat) : Bool := match ops[i]?, ops[j]? with
  | some x, some y => x.apart ops y && !isSel x.op && !isSel y.op && (decide (cls i = .reg) || decide (cls j = .reg) || (decide (cls i = .ld) && decide (cls j = .ld)))
  | _, _ => false

theorem indepB_symm {i j : Nat} (h : indepB ops cls i j = true) : indepB ops cls j i = true := by
  unfold indepB at *
  split at h
  · rename_i x y hx hy
    simp only [Bool.and_eq_true, Bool.or_eq_true, decide_eq_true_eq] at h ⊢
    obtain ⟨⟨⟨h1, h2⟩, h3⟩, h4⟩ := h
    simp only [hx, hy, Bool.and_eq_true, Bool.or_eq_true, decide_eq_true_eq]
    refine ⟨⟨⟨apart_symm h1, h3⟩, h2⟩, ?_⟩
    rcases h4 with (h4 | h4) | h4
    · exact .inl (.inr h4)
    · exact .inl (.inl h4)
    · exact .inr ⟨h4.2, h4.1⟩
  · cases h

theorem wpY_swap {i j : Nat} {l : List Nat} (hd : indepB ops cls i j = true) (h : wpY P ops cls K (i :: j :: l) a w) : wpY P ops cls K (j :: i :: l) a w := by
  unfold indepB at hd
  split at hd
  rotate_left
  · cases hd
  rename_i x y hx hy
  simp only [Bool.and_eq_true, Bool.or_eq_true, decide_eq_true_eq, Bool.not_eq_true'] at hd
  obtain ⟨⟨⟨hap, hsx⟩, hsy⟩, hc⟩ := hd
  have hap' := apart_symm hap
  obtain ⟨h1, h2, h3⟩ := Oper.apart_spec hap
  simp only [wpY, hx, hy, Option.some.injEq, exists_eq_left'] at h ⊢
  -- both yield a value
  have both : ∀ {vi vj}, YieldsAt P ops x vi a w → YieldsAt P ops y vj (a.put x.dst vi) w → YieldsAt P ops y vj a w ∧ YieldsAt P ops x vi (a.put y.dst vj) w := by
    intro vi vj hi hj
    obtain ⟨e1, e2⟩ := Apart.put hap hsy a vi
    obtain ⟨e3, e4⟩ := Apart.put hap' hsx a vj
    exact ⟨hj.of_same e1.symm e2.symm, hi.of_same e3 e4⟩
  have bothY : ∀ {vi vj}, Yields P ops y vj (a.put x.dst vi) → Yields P ops y vj a := by
    intro vi vj hj
    obtain ⟨e1, e2⟩ := Apart.put hap hsy a vi
    exact hj.of_same e1.symm e2.symm
  have bothX : ∀ {vi vj}, Yields P ops x vi a → Yields P ops x vi (a.put y.dst vj) := by
    intro vi vj hi
    obtain ⟨e3, e4⟩ := Apart.put hap' hsx a vj
    exact hi.of_same e3 e4
  cases hci : cls i <;> cases hcj : cls j <;> simp only [hci, hcj] at h ⊢
  · obtain ⟨vi, hi, vj, hj, hk⟩ := h
    exact ⟨vj, bothY hj, vi, bothX hi, by rw [← Act.put_comm a vi vj h2]; exact hk⟩
  · obtain ⟨vi, hi, vj, hj, hk⟩ := h
    exact ⟨vj, (both (hi.atW w) hj).1, vi, bothX hi, by rw [← Act.put_comm a vi vj h2]; exact hk⟩
  · obtain ⟨vi, hi, hk⟩ := h
    have := wpOp_put hy hap (isSel_ne hsx) (isSel_ne hsy) (fun _ _ _ hh => hh) hi hk
    exact wpOp_mono (fun a' w' hh => ⟨vi, hh⟩) this
  · obtain ⟨vi, hi, vj, hj, hk⟩ := h
    exact ⟨vj, bothY hj, vi, (both hi (hj.atW w)).2, by rw [← Act.put_comm a vi vj h2]; exact hk⟩
  · obtain ⟨vi, hi, vj, hj, hk⟩ := h
    exact ⟨vj, (both hi hj).1, vi, (both hi hj).2, by rw [← Act.put_comm a vi vj h2]; exact hk⟩
  · simp [hci, hcj] at hc
  · obtain ⟨v, hy', hh⟩ := wpOp_back hx hap hsx hsy h
    exact ⟨v, hy', hh⟩
  · simp [hci, hcj] at hc
  · simp [hci, hcj] at hc

/-- One operation is moved ahead of others that it does not hang on. -/
theorem wpY_front {x : Nat} {l1 l2 : List Nat} : ∀ {a : Act} {w : World}, (∀ y ∈ l1, indepB ops cls y x = true) → wpY P ops cls K (l1 ++ x :: l2) a w → wpY P ops cls K (x :: (l1 ++ l2)) a w := by
  induction l1 with
  | nil => intro a w _ h; exact h
  | cons y l1 ih =>
    intro a w hall h
    exact wpY_swap (hall y (by simp)) (wpY_tail (fun a w hh => ih (fun z hz => hall z (by simp [hz])) hh) h)

/-- Two orders in which whatever hangs on one another stands alike. -/
theorem wpY_perm : ∀ {σ τ : List Nat} {a : Act} {w : World}, σ.Perm τ → τ.Nodup → (∀ i j, indepB ops cls i j = false → [i, j].Sublist τ → [i, j].Sublist σ) → wpY P ops cls K τ a w → wpY P ops cls K σ a w
  | [], τ, a, w, hp, _, _, h => by
    have : τ = [] := hp.symm.eq_nil
    subst this; exact h
  | x :: σ, τ, a, w, hp, hn, hd, h => by
    have hx : x ∈ τ := hp.subset (by simp)
    obtain ⟨l1, l2, rfl⟩ := List.append_of_mem hx
    have hσn : (x :: σ).Nodup := hp.nodup_iff.2 hn
    have hxσ : x ∉ σ := (List.nodup_cons.1 hσn).1
    have hp' : σ.Perm (l1 ++ l2) := (hp.trans List.perm_middle).cons_inv
    have hsub : (l1 ++ l2).Sublist (l1 ++ x :: l2) := List.Sublist.append (List.Sublist.refl _) (List.sublist_cons_self _ _)
    have hn' : (l1 ++ l2).Nodup := List.Sublist.nodup hsub hn
    refine wpY_tail (l := l1 ++ l2) (fun a w hh => wpY_perm hp' hn' (fun i j hi hs => ?_) hh) (wpY_front (fun y hy => ?_) h)
    · have := hd i j hi (hs.trans hsub)
      cases this with
      | cons _ hh => exact hh
      | cons_cons _ hh =>
        exfalso
        have : x ∈ l1 ++ l2 := hs.subset (by simp)
        exact hxσ (hp'.symm.subset this)
    · cases hind : indepB ops cls y x with
      | true => rfl
      | false =>
        exfalso
        have hs : [y, x].Sublist (l1 ++ x :: l2) := by
          have h1 : [y].Sublist l1 := List.singleton_sublist.2 hy
          have h2 : [x].Sublist (x :: l2) := List.singleton_sublist.2 (by simp)
          exact h1.append h2
        have := hd y x hind hs
        cases this with
        | cons _ hh => exact hxσ (hh.subset (by simp))
        | cons_cons _ hh => exact hxσ (hh.subset (by simp))

end
end Go.Idl

/- Orders of a region: what every drawn order keeps, and a check that some given orders stand for all. Conditions: none (definitions and lemmas). -/
namespace Go.Idl
open Go

def unl (n : Nat) (listed : Array Bool) : List Nat := (List.range n).filter fun i => !listed.getD i true

theorem mem_unl {n : Nat} {listed : Array Bool} {i : Nat} : i ∈ unl n listed ↔ i < n ∧ listed.getD i true = false := by
  simp [unl]

theorem getD_false_true {listed : Array Bool} {i : Nat} (h : i < listed.size) : listed.getD i true = listed.getD i false := by
  simp [Array.getD_eq_getD_getElem?, h]

section
variable {md : Region.Mode} {ops : Array Oper}

/-- Every edge leads back. -/
def backB (md : Region.Mode) (ops : Array Oper) : Bool := ops.toList.zipIdx.all fun (o, i) => o.after.toList.all fun e => !Region.binds md e || decide (e.on < i)

theorem backB_spec (h : backB md ops = true) {i : Nat} {o : Oper} (ho : ops[i]? = some o) {e : Edge} (he : e ∈ o.after) (hb : Region.binds md e = true) : e.on < i := by
  unfold backB at h
  rw [List.all_eq_true] at h
  have := h (o, i) (by
    rw [List.mem_zipIdx_iff_getElem?]
    simpa using ho)
  simp only [List.all_eq_true] at this
  have := this e (by simpa using he)
  simpa [hb] using this

theorem ready_some (h : backB md ops = true) {listed : Array Bool} (hs : listed.size = ops.size) (hne : unl ops.size listed ≠ []) : Region.ready md ops listed ≠ [] := by
  -- the least one that is not listed
  obtain ⟨i, hi⟩ := List.exists_mem_of_ne_nil _ hne
  have : ∃ m, m ∈ unl ops.size listed ∧ ∀ j, j < m → j ∉ unl ops.size listed := by
    induction i using Nat.strongRecOn with
    | _ i ih =>
      by_cases hex : ∃ j, j < i ∧ j ∈ unl ops.size listed
      · obtain ⟨j, hj, hju⟩ := hex
        exact ih j hj hju
      · exact ⟨i, hi, fun j hj hju => hex ⟨j, hj, hju⟩⟩
  obtain ⟨m, hm, hmin⟩ := this
  obtain ⟨hmlt, hmf⟩ := mem_unl.1 hm
  have hmem : m ∈ Region.ready md ops listed := by
    rw [mem_ready]
    refine ⟨hmf, ops[m], by simp [hmlt], fun e he hb => ?_⟩
    have hlt := backB_spec h (i := m) (o := ops[m]) (by simp [hmlt]) he hb
    have hn := hmin _ hlt
    rw [mem_unl] at hn
    have hlt' : e.on < ops.size := by omega
    rw [← getD_false_true (by omega)]
    cases hv : listed.getD e.on true with
    | true => rfl
    | false => exact absurd ⟨hlt', hv⟩ hn
  intro h0
  rw [h0] at hmem
  cases hmem

theorem unl_set {n i : Nat} {listed : Array Bool} (hi : i < listed.size) : unl n (listed.setIfInBounds i true) = (unl n listed).filter (· != i) := by
  unfold unl
  rw [List.filter_filter]
  apply List.filter_congr
  intro j _
  by_cases hj : j = i
  · subst hj; simp [Array.getD_eq_getD_getElem?, hi]
  · have : i ≠ j := fun h => hj h.symm
    simp [Array.getD_eq_getD_getElem?, Array.getElem?_setIfInBounds_ne this, hj]

theorem go_eq (fuel t : Nat) (listed : Array Bool) : Region.linearise.go md ops (fuel + 1) t listed [] = match (Region.ready md ops listed)[t % (Region.ready md ops listed).length]? with
    | some i => i :: Region.linearise.go md ops fuel (t / (Region.ready md ops listed).length) (listed.setIfInBounds i true) []
    | none => [] := by
  change (match (Region.ready md ops listed)[t % (Region.ready md ops listed).length]? with
      | some i => Region.linearise.go md ops fuel (t / (Region.ready md ops listed).length) (listed.setIfInBounds i true) [i]
      | none => [].reverse) = _
  split
  · rw [linearise_go_acc]; rfl
  · rfl

/-- What a drawn order is. -/
theorem go_spec (hb : backB md ops = true) : ∀ (fuel t : Nat) (listed : Array Bool), listed.size = ops.size → (unl ops.size listed).length ≤ fuel →
    (Region.linearise.go md ops fuel t listed []).Nodup ∧ (∀ i, i ∈ Region.linearise.go md ops fuel t listed [] ↔ i ∈ unl ops.size listed) ∧
    ∀ i o e, i ∈ Region.linearise.go md ops fuel t listed [] → ops[i]? = some o → e ∈ o.after → Region.binds md e = true → listed.getD e.on false = true ∨ [e.on, i].Sublist (Region.linearise.go md ops fuel t listed []) := by
  intro fuel
  induction fuel with
  | zero =>
    intro t listed hs hl
    have h0 : unl ops.size listed = [] := List.eq_nil_of_length_eq_zero (by omega)
    have : Region.linearise.go md ops 0 t listed [] = [] := rfl
    rw [this, h0]
    exact ⟨List.nodup_nil, by simp, fun i o e hi => by cases hi⟩
  | succ fuel ih =>
    intro t listed hs hl
    rw [go_eq]
    split
    · rename_i i hi
      have hir : i ∈ Region.ready md ops listed := List.mem_of_getElem? hi
      obtain ⟨hif, o, ho, hed⟩ := mem_ready.1 hir
      have hilt : i < ops.size := (Array.getElem?_eq_some_iff.1 ho).1
      have hiu : i ∈ unl ops.size listed := mem_unl.2 ⟨hilt, hif⟩
      have hu := unl_set (n := ops.size) (i := i) (listed := listed) (by omega)
      have hlen : (unl ops.size (listed.setIfInBounds i true)).length ≤ fuel := by
        rw [hu]
        have : ((unl ops.size listed).filter (· != i)).length < (unl ops.size listed).length := by
          rw [List.length_filter_lt_length_iff_exists]
          exact ⟨i, hiu, by simp⟩
        omega
      obtain ⟨h1, h2, h3⟩ := ih (t / (Region.ready md ops listed).length) (listed.setIfInBounds i true) (by simpa using hs) hlen
      refine ⟨List.nodup_cons.2 ⟨?_, h1⟩, ?_, ?_⟩
      · rw [h2, hu]; simp
      · intro j
        rw [List.mem_cons, h2, hu, List.mem_filter]
        constructor
        · rintro (rfl | hj)
          · exact hiu
          · exact hj.1
        · intro hj
          by_cases hji : j = i
          · exact .inl hji
          · exact .inr ⟨hj, by simpa using hji⟩
      · intro j oj e hj hoj he hbe
        rcases List.mem_cons.1 hj with rfl | hj
        · rw [ho] at hoj; cases hoj
          exact .inl (hed e he hbe)
        · rcases h3 j oj e hj hoj he hbe with h | h
          · by_cases hei : e.on = i
            · right
              rw [hei]
              exact List.Sublist.cons_cons i (List.singleton_sublist.2 hj)
            · left
              rw [← h]
              have : i ≠ e.on := fun h => hei h.symm
              simp [Array.getD_eq_getD_getElem?, Array.getElem?_setIfInBounds_ne this]
          · exact .inr (h.cons _)
    · rename_i hi
      have h0 : unl ops.size listed = [] := by
        cases hq : unl ops.size listed with
        | nil => rfl
        | cons x xs =>
          exfalso
          have hne := ready_some hb hs (by rw [hq]; simp)
          have hpos : 0 < (Region.ready md ops listed).length := List.length_pos_iff.2 hne
          have := Nat.mod_lt t hpos
          rw [List.getElem?_eq_none_iff] at hi
          omega
      rw [h0]
      exact ⟨List.nodup_nil, by simp, fun i o e hi => by cases hi⟩

/-- Behind which operations each one stands, as bits. -/
def maskOf (md : Region.Mode) (o : Oper) (acc : List Nat) : Nat := o.after.toList.foldl (fun s e => if Region.binds md e then s ||| (2 ^ e.on ||| acc.getD e.on 0) else s) 0
def clo (md : Region.Mode) : List Oper → List Nat → List Nat
  | [], acc => acc
  | o :: r, acc => clo md r (acc ++ [maskOf md o acc])

/-- An order that keeps the edges. -/
structure Lin (md : Region.Mode) (ops : Array Oper) (σ : List Nat) : Prop where
  nodup : σ.Nodup
  mem : ∀ i, i ∈ σ ↔ i < ops.size
  edge : ∀ i o e, ops[i]? = some o → e ∈ o.after → Region.binds md e = true → [e.on, i].Sublist σ

theorem sub2_trans {σ : List Nat} (hn : σ.Nodup) {i j k : Nat} (h : [i, j].Sublist σ) (h' : [j, k].Sublist σ) : [i, k].Sublist σ := by
  induction σ with
  | nil => cases h
  | cons x σ ih =>
    have hx := List.nodup_cons.1 hn
    cases h with
    | cons _ h1 =>
      cases h' with
      | cons _ h2 => exact (ih hx.2 h1 h2).cons _
      | cons_cons _ h2 => exact absurd (h1.subset (by simp)) hx.1
    | cons_cons _ h1 =>
      cases h' with
      | cons _ h2 => exact List.Sublist.cons_cons _ (List.singleton_sublist.2 (h2.subset (by simp)))
      | cons_cons _ h2 => exact absurd (List.singleton_sublist.1 h1) hx.1

theorem sub2_ne {σ : List Nat} (hn : σ.Nodup) {i j : Nat} (h : [i, j].Sublist σ) : i ≠ j := by
  have := h.nodup hn
  simpa using this

theorem sub2_asymm {σ : List Nat} (hn : σ.Nodup) {i j : Nat} (h : [i, j].Sublist σ) (h' : [j, i].Sublist σ) : False :=
  sub2_ne hn (sub2_trans hn h h') rfl

theorem sub2_total {σ : List Nat} {i j : Nat} (hi : i ∈ σ) (hj : j ∈ σ) (hne : i ≠ j) : [i, j].Sublist σ ∨ [j, i].Sublist σ := by
  induction σ with
  | nil => cases hi
  | cons x σ ih =>
    rcases List.mem_cons.1 hi with h1 | h1 <;> rcases List.mem_cons.1 hj with h2 | h2
    · exact absurd (h1.trans h2.symm) hne
    · rw [h1]; exact .inl (List.Sublist.cons_cons _ (List.singleton_sublist.2 h2))
    · rw [h2]; exact .inr (List.Sublist.cons_cons _ (List.singleton_sublist.2 h1))
    · exact (ih h1 h2).imp (·.cons _) (·.cons _)

theorem mask_spec {σ : List Nat} {o : Oper} {acc : List Nat} {j : Nat} (hn : σ.Nodup) (hacc : ∀ k i, (acc.getD k 0).testBit i = true → [i, k].Sublist σ) (hed : ∀ e ∈ o.after.toList, Region.binds md e = true → [e.on, j].Sublist σ) :
    ∀ i, (maskOf md o acc).testBit i = true → [i, j].Sublist σ := by
  have key : ∀ (l : List Edge) (s : Nat), (∀ e ∈ l, Region.binds md e = true → [e.on, j].Sublist σ) → (∀ i, s.testBit i = true → [i, j].Sublist σ) →
      ∀ i, (l.foldl (fun s e => if Region.binds md e then s ||| (2 ^ e.on ||| acc.getD e.on 0) else s) s).testBit i = true → [i, j].Sublist σ := by
    intro l
    induction l with
    | nil => intro s _ hs i hi; exact hs i hi
    | cons e l ih =>
      intro s hl hs i hi
      rw [List.foldl_cons] at hi
      refine ih _ (fun e' he' => hl e' (by simp [he'])) ?_ i hi
      intro i hi
      split at hi
      · rename_i hbe
        have hej := hl e (by simp) hbe
        simp only [Nat.testBit_or, Bool.or_eq_true] at hi
        rcases hi with hi | hi | hi
        · exact hs i hi
        · rw [Nat.testBit_two_pow] at hi
          have : e.on = i := by simpa using hi
          rw [← this]; exact hej
        · exact sub2_trans hn (hacc _ _ hi) hej
      · exact hs i hi
  exact key _ 0 hed (by simp)

theorem clo_spec {σ : List Nat} (hL : Lin md ops σ) : ∀ (l : List Oper) (acc : List Nat), (∀ k o, l[k]? = some o → ops[acc.length + k]? = some o) → (∀ k i, (acc.getD k 0).testBit i = true → [i, k].Sublist σ) →
    ∀ k i, ((clo md l acc).getD k 0).testBit i = true → [i, k].Sublist σ
  | [], acc, _, hacc => hacc
  | o :: l, acc, hl, hacc => by
    have ho : ops[acc.length]? = some o := by simpa using hl 0 o rfl
    refine clo_spec hL l (acc ++ [maskOf md o acc]) (fun k o' hk => ?_) (fun k i hi => ?_)
    · have := hl (k + 1) o' (by simpa using hk)
      simpa [Nat.add_assoc, Nat.add_comm 1 k] using this
    · by_cases hk : k < acc.length
      · rw [List.getD_eq_getElem?_getD, List.getElem?_append_left hk, ← List.getD_eq_getElem?_getD] at hi
        exact hacc k i hi
      · by_cases hk' : k = acc.length
        · subst hk'
          rw [List.getD_eq_getElem?_getD, List.getElem?_append_right (by omega)] at hi
          simp only [Nat.sub_self, List.getElem?_cons_zero, Option.getD_some] at hi
          exact mask_spec hL.nodup hacc (fun e he hb => hL.edge _ o e ho (by simpa using he) hb) i hi
        · rw [List.getD_eq_getElem?_getD, List.getElem?_eq_none (by simp; omega)] at hi
          simp at hi

theorem lin_go (hb : backB md ops = true) (t : Nat) : Lin md ops (Region.linearise md ops t) := by
  have hu : ∀ i, i ∈ unl ops.size (Array.replicate ops.size false) ↔ i < ops.size := fun i => by
    rw [mem_unl]
    constructor
    · exact fun h => h.1
    · intro h; refine ⟨h, ?_⟩; simp [Array.getD_eq_getD_getElem?, h]
  have hlen : (unl ops.size (Array.replicate ops.size false)).length ≤ ops.size := by
    unfold unl
    exact Nat.le_trans (List.length_filter_le _ _) (by simp)
  obtain ⟨h1, h2, h3⟩ := go_spec hb ops.size t (Array.replicate ops.size false) (by simp) hlen
  refine ⟨h1, fun i => (h2 i).trans (hu i), fun i o e ho he hbe => ?_⟩
  have hi : i < ops.size := (Array.getElem?_eq_some_iff.1 ho).1
  rcases h3 i o e ((h2 i).2 ((hu i).2 hi)) ho he hbe with h | h
  · exfalso
    by_cases hlt : e.on < ops.size <;> simp [Array.getD_eq_getD_getElem?, hlt] at h
  · exact h

/-- Does i stand before j? -/
def bef : List Nat → Nat → Nat → Bool
  | [], _, _ => false
  | x :: r, i, j => if x = i then r.contains j else if x = j then false else bef r i j
theorem bef_spec {i j : Nat} : ∀ {l : List Nat}, bef l i j = true → [i, j].Sublist l
  | [], h => by cases h
  | x :: r, h => by
    simp only [bef] at h
    split at h
    · rename_i hx; subst hx
      exact List.Sublist.cons_cons _ (List.singleton_sublist.2 (by simpa using h))
    · split at h
      · cases h
      · exact (bef_spec h).cons _

/-- Does y stand ahead of x, by the edges and by what has been chosen? -/
def forced (c : List Nat) (E : List (Nat × Nat)) (y x : Nat) : Bool := E.any fun p => (y == p.1 || (c.getD p.1 0).testBit y) && (p.2 == x || (c.getD x 0).testBit p.2)

/-- Some given orders stand for all, as far as these pairs go. -/
def cov (c : List Nat) : List (Nat × Nat) → List (Nat × Nat) → List (List Nat) → Bool
  | [], _, cs => !cs.isEmpty
  | (i, j) :: r, E, cs => (forced c E j i || cov c r ((i, j) :: E) (cs.filter fun τ => bef τ i j)) && (forced c E i j || cov c r ((j, i) :: E) (cs.filter fun τ => bef τ j i))

theorem forced_spec {σ : List Nat} (hn : σ.Nodup) {c : List Nat} (hc : ∀ k i, (c.getD k 0).testBit i = true → [i, k].Sublist σ) {E : List (Nat × Nat)} (hE : ∀ i j, (i, j) ∈ E → [i, j].Sublist σ) {y x : Nat} (h : forced c E y x = true) :
    [y, x].Sublist σ := by
  unfold forced at h
  rw [List.any_eq_true] at h
  obtain ⟨⟨u, v⟩, hm, h⟩ := h
  simp only [Bool.and_eq_true, Bool.or_eq_true, beq_iff_eq] at h
  have huv := hE u v hm
  have h1 : [y, v].Sublist σ := by
    rcases h.1 with rfl | h1
    · exact huv
    · exact sub2_trans hn (hc _ _ h1) huv
  rcases h.2 with rfl | h2
  · exact h1
  · exact sub2_trans hn h1 (hc _ _ h2)

theorem cov_spec {σ : List Nat} (hn : σ.Nodup) {c : List Nat} (hc : ∀ k i, (c.getD k 0).testBit i = true → [i, k].Sublist σ) : ∀ {A E : List (Nat × Nat)} {cs : List (List Nat)}, (∀ i j, (i, j) ∈ A → i ∈ σ ∧ j ∈ σ ∧ i ≠ j) →
    (∀ i j, (i, j) ∈ E → [i, j].Sublist σ) → cov c A E cs = true →
    ∃ τ ∈ cs, ∀ i j, (i, j) ∈ A → (([i, j].Sublist σ ∧ [i, j].Sublist τ) ∨ ([j, i].Sublist σ ∧ [j, i].Sublist τ))
  | [], E, cs, _, _, h => by
    cases cs with
    | nil => simp [cov] at h
    | cons τ cs => exact ⟨τ, by simp, by simp⟩
  | (i, j) :: A, E, cs, hA, hE, h => by
    simp only [cov, Bool.and_eq_true, Bool.or_eq_true] at h
    obtain ⟨h1, h2, h3⟩ := hA i j (by simp)
    have hA' : ∀ i j, (i, j) ∈ A → i ∈ σ ∧ j ∈ σ ∧ i ≠ j := fun i j hm => hA i j (by simp [hm])
    rcases sub2_total h1 h2 h3 with hs | hs
    · have hcv := h.1.resolve_left (fun hf => sub2_asymm hn hs (forced_spec hn hc hE hf))
      obtain ⟨τ, hτ, ht⟩ := cov_spec hn hc hA' (fun a b hm => by
        rcases List.mem_cons.1 hm with he | hm
        · cases he; exact hs
        · exact hE a b hm) hcv
      rw [List.mem_filter] at hτ
      refine ⟨τ, hτ.1, fun a b hm => ?_⟩
      rcases List.mem_cons.1 hm with he | hm
      · cases he; exact .inl ⟨hs, bef_spec hτ.2⟩
      · exact ht a b hm
    · have hcv := h.2.resolve_left (fun hf => sub2_asymm hn hs (forced_spec hn hc hE hf))
      obtain ⟨τ, hτ, ht⟩ := cov_spec hn hc hA' (fun a b hm => by
        rcases List.mem_cons.1 hm with he | hm
        · cases he; exact hs
        · exact hE a b hm) hcv
      rw [List.mem_filter] at hτ
      refine ⟨τ, hτ.1, fun a b hm => ?_⟩
      rcases List.mem_cons.1 hm with he | hm
      · cases he; exact .inr ⟨hs, bef_spec hτ.2⟩
      · exact ht a b hm

/-- All pairs below n that hang on one another. -/
def deps (ops : Array Oper) (cls : Nat → Cls) (n : Nat) : List (Nat × Nat) :=
  (List.range n).flatMap fun j => (List.range j).filterMap fun i => if indepB ops cls i j then none else some (i, j)

theorem mem_deps {cls : Nat → Cls} {n i j : Nat} : (i, j) ∈ deps ops cls n ↔ i < j ∧ j < n ∧ indepB ops cls i j = false := by
  unfold deps
  rw [List.mem_flatMap]
  constructor
  · rintro ⟨j', hj', hm⟩
    rw [List.mem_filterMap] at hm
    obtain ⟨i', hi', he⟩ := hm
    split at he
    · cases he
    · rename_i hf
      simp only [Option.some.injEq, Prod.mk.injEq] at he
      obtain ⟨rfl, rfl⟩ := he
      exact ⟨List.mem_range.1 hi', List.mem_range.1 hj', by simpa using hf⟩
  · rintro ⟨h1, h2, h3⟩
    exact ⟨j, List.mem_range.2 h2, List.mem_filterMap.2 ⟨i, List.mem_range.2 h1, by simp [h3]⟩⟩

def permB (τ : List Nat) (n : Nat) : Bool := τ.length == n && (List.range n).all fun i => τ.contains i

theorem perm_of_sub {τ l : List Nat} (hn : l.Nodup) (h : ∀ x ∈ l, x ∈ τ) (hl : τ.length = l.length) : τ.Perm l := by
  induction l generalizing τ with
  | nil => simp at hl; subst hl; exact List.Perm.refl _
  | cons x l ih =>
    obtain ⟨a, b, rfl⟩ := List.append_of_mem (h x (by simp))
    have hx := List.nodup_cons.1 hn
    have := ih (τ := a ++ b) hx.2 (fun y hy => by
      have h1 := h y (by simp [hy])
      simp only [List.mem_append, List.mem_cons] at h1 ⊢
      rcases h1 with h1 | h1 | h1
      · exact .inl h1
      · exact absurd (h1 ▸ hy) hx.1
      · exact .inr h1) (by simp at hl ⊢; omega)
    exact List.perm_middle.trans (this.cons x)

theorem permB_spec {τ : List Nat} {n : Nat} (h : permB τ n = true) : τ.Perm (List.range n) := by
  unfold permB at h
  simp only [Bool.and_eq_true, beq_iff_eq] at h
  refine perm_of_sub List.nodup_range (fun x hx => ?_) (by simp [h.1])
  simpa using List.all_eq_true.1 h.2 x hx

/-- The check of a drawn region: the order as written, and the other ones given, stand for all. -/
def drawB (ops : Array Oper) (cls : Nat → Cls) (alts : List (List Nat)) : Bool :=
  let c := clo .any ops.toList []
  let D := deps ops cls ops.size
  let A := D.filter fun p => !(c.getD p.2 0).testBit p.1
  let cs := List.range ops.size :: alts
  backB .any ops && (alts.all fun τ => permB τ ops.size) && (cs.all fun τ => D.all fun p => !(c.getD p.2 0).testBit p.1 || bef τ p.1 p.2) && cov c A [] cs

theorem drawB_spec {cls : Nat → Cls} {alts : List (List Nat)} (h : drawB ops cls alts = true) {σ : List Nat} (hL : Lin .any ops σ) :
    ∃ τ ∈ List.range ops.size :: alts, σ.Perm τ ∧ τ.Nodup ∧ ∀ i j, indepB ops cls i j = false → [i, j].Sublist τ → [i, j].Sublist σ := by
  unfold drawB at h
  simp only [Bool.and_eq_true] at h
  obtain ⟨⟨⟨hb, hperm⟩, hclo⟩, hcov⟩ := h
  have hc := clo_spec hL ops.toList [] (fun k o hk => by simpa using hk) (fun k i hi => by simp at hi)
  obtain ⟨τ, hτ, ht⟩ := cov_spec hL.nodup hc (fun i j hm => by
    rw [List.mem_filter] at hm
    obtain ⟨h1, h2, h3⟩ := mem_deps.1 hm.1
    exact ⟨(hL.mem i).2 (by omega), (hL.mem j).2 h2, by omega⟩) (by simp) hcov
  have hpτ : τ.Perm (List.range ops.size) := by
    rcases List.mem_cons.1 hτ with rfl | hm
    · exact List.Perm.refl _
    · rw [List.all_eq_true] at hperm
      exact permB_spec (hperm τ hm)
  have hpσ : σ.Perm (List.range ops.size) := by
    rw [List.perm_ext_iff_of_nodup hL.nodup List.nodup_range]
    intro i; rw [hL.mem, List.mem_range]
  have hnτ : τ.Nodup := hpτ.nodup_iff.2 List.nodup_range
  refine ⟨τ, hτ, hpσ.trans hpτ.symm, hnτ, ?_⟩
  have main : ∀ i j, i < j → indepB ops cls i j = false → j < ops.size → (([i, j].Sublist σ ∧ [i, j].Sublist τ) ∨ ([j, i].Sublist σ ∧ [j, i].Sublist τ)) := by
    intro i j hij hi hj
    have hD := mem_deps.2 ⟨hij, hj, hi⟩
    cases hbit : ((clo .any ops.toList []).getD j 0).testBit i with
    | true =>
      have h1 := hc j i hbit
      rw [List.all_eq_true] at hclo
      have h2 := hclo τ hτ
      rw [List.all_eq_true] at h2
      have h3 := h2 (i, j) hD
      simp only [hbit, Bool.not_true, Bool.false_or] at h3
      exact .inl ⟨h1, bef_spec h3⟩
    | false => exact ht i j (List.mem_filter.2 ⟨hD, by simp only [hbit, Bool.not_false]⟩)
  intro i j hi hs
  have hne := sub2_ne hnτ hs
  have hil : i < ops.size := List.mem_range.1 (hpτ.subset (hs.subset (by simp)))
  have hjl : j < ops.size := List.mem_range.1 (hpτ.subset (hs.subset (by simp)))
  rcases Nat.lt_or_gt_of_ne hne with hlt | hlt
  · rcases main i j hlt hi hjl with ⟨h1, h2⟩ | ⟨h1, h2⟩
    · exact h1
    · exact (sub2_asymm hnτ hs h2).elim
  · have hi' : indepB ops cls j i = false := by
      cases hq : indepB ops cls j i with
      | false => rfl
      | true => rw [indepB_symm hq] at hi; cases hi
    rcases main j i hlt hi' hil with ⟨h1, h2⟩ | ⟨h1, h2⟩
    · exact (sub2_asymm hnτ hs h2).elim
    · exact h1

/-- A drawn region. -/
theorem wp_drawn {P : Program} {id : Nat} {cls : Nat → Cls} {alts : List (List Nat)} {K : Act → World → Prop} {Q : Exit → Act → World → Prop} {a : Act} {w : World} (hm : P.follows .mixedOrders = true)
    (hd : drawB ops cls alts = true) (hK : ∀ a w, K a w → Q .normal a w)
    (h : ∀ τ ∈ List.range ops.size :: alts, wpY P ops cls K τ a { w with drawn := w.drawn + 1 }) : (Code.region id ops true).wp P Q a w := by
  refine wp_region_draw fun t => ?_
  simp only [Region.schedule, hm, Bool.true_or, if_true]
  have hb : backB .any ops = true := by
    unfold drawB at hd
    simp only [Bool.and_eq_true] at hd
    exact hd.1.1.1
  obtain ⟨τ, hτ, h1, h2, h3⟩ := drawB_spec hd (lin_go hb t)
  exact wpY_ops hK (wpY_perm h1 h2 h3 (h τ hτ))

/-- A region whose order is fixed. -/
theorem wp_fixed {P : Program} {id : Nat} {cls : Nat → Cls} {K : Act → World → Prop} {Q : Exit → Act → World → Prop} {a : Act} {w : World} (hK : ∀ a w, K a w → Q .normal a w)
    (h : wpY P ops cls K (List.range ops.size) a w) : (Code.region id ops false).wp P Q a w :=
  wp_region (wpY_ops hK h)

end
end Go.Idl

/- Results of a call, taken out of the frame. Conditions: none (lemmas). -/
namespace Go.Idl
open Go

section
variable {cx : Cx} {w w' : World} {F F' : Nat → Prop} {ρ ρ' : Rho} {fp fp' : Fp} {X f f' fy : List Nat} {st st' : St} {a : Act} {tm : Nat → Value} {v : IV}

theorem Cat.uns {R : IV → Value → List Nat → Prop} (hR : ∀ v, R .un v []) : ∀ (us : List Value), Cat R (List.replicate us.length .un) us []
  | [] => .nil
  | u :: us => by
    rw [List.length_cons, List.replicate_succ]
    exact Cat.cons (f := []) (fp := []) (hR u) (Cat.uns hR us)

/-- Cells of a box are taken out. -/
theorem Rel.takeBox (h : Rel cx w F ρ fp X st tm) {l k c sz : Nat} {cs xs : List IV} (hb : st.box l k = some cs) (hs : sub cs c sz = some xs) :
    ∃ fp' fx us C ty, Rel cx w F ρ fp' (fx ++ X) { st.setBox l k (splice cs c (List.replicate sz .un)) with T := killRt (.B l k) st.T } tm ∧ Cat (RBox cx w F ρ st l) xs us fx ∧
      w.heap[ρ l k]? = some (.cells C ty (0, 0)) ∧ us = (C.toList.drop c).take sz ∧ c + sz ≤ C.size ∧ (∀ b ∈ fx, ∃ r, b ∈ fp r) ∧ (∀ r, ∀ b ∈ fp' r, b ∈ fp r) ∧
      ShpLe st { st.setBox l k (splice cs c (List.replicate sz .un)) with T := killRt (.B l k) st.T } := by
  obtain ⟨C, ty, f0, hfp, hC, hcat⟩ := h.boxes l k cs hb
  obtain ⟨hle, rfl⟩ := sub_some hs
  have hcl : cs.length = C.toList.length := hcat.len
  have hdec : cs = cs.take c ++ ((cs.drop c).take sz ++ cs.drop (c + sz)) := by
    rw [← List.drop_drop, List.take_append_drop, List.take_append_drop]
  rw [hdec] at hcat
  obtain ⟨u1, u2, f1, g0, hu, hfe, h1, h2⟩ := hcat.split
  obtain ⟨us, u3, g, f2, hu2, hg0, hx, h3⟩ := h2.split
  subst hu2
  subst hg0
  have hl1 : u1.length = c := by rw [← h1.len]; simp; omega
  have hl2 : us.length = sz := by rw [← hx.len]; simp; omega
  have hus : us = (C.toList.drop c).take sz := by rw [hu, List.drop_append, hl1]; simp [← hl1, ← hl2]
  have hCs : C.toList.length = C.size := Array.length_toList
  have hnew : Cat (RBox cx w F ρ st l) (splice cs c (List.replicate sz .un)) C.toList (f1 ++ f2) := by
    have e1 : splice cs c (List.replicate sz .un) = cs.take c ++ (List.replicate us.length .un ++ cs.drop (c + sz)) := by
      simp [splice, hl2]
    rw [e1, hu]
    have := h1.app ((Cat.uns (R := RBox cx w F ρ st l) (fun v => .inr (RDs.un (v := v) .nil)) us).app h3)
    simpa using this
  have hsome : (st.box l k).isSome = true := by rw [hb]; rfl
  have hbs := fun l' k' => box_setBox (cs' := splice cs c (List.replicate sz .un)) hsome l' k'
  have shp := shp_setBox st l k (splice cs c (List.replicate sz .un))
  have hin : ρ l k ∈ fp (.B l k) := by rw [hfp]; simp
  have hpk : KillOK (IV.rooted (.B l k)) := .rooted _
  have hmem : ∀ b, b ∈ f1 ++ f2 → b ∈ f0 := fun b hb => by rw [hfe]; simp at hb ⊢; rcases hb with h | h <;> simp [h]
  have hgmem : ∀ b, b ∈ g → b ∈ f0 := fun b hb => by rw [hfe]; simp [hb]
  have hnd := h.nodup (.B l k)
  rw [hfp] at hnd
  obtain ⟨hnin, hnd0⟩ := List.nodup_cons.1 hnd
  rw [hfe] at hnd0
  have hn1 := List.nodup_append.1 hnd0
  have hn2 := List.nodup_append.1 hn1.2.1
  have hdisj : ∀ b, b ∈ g → b ∉ f1 ++ f2 := fun b hb hb' => by
    rcases List.mem_append.1 hb' with h' | h'
    · exact hn1.2.2 b h' b (by simp [hb]) rfl
    · exact hn2.2.2 b hb b h' rfl
  have tr : Tr w F ρ st (look st tm ρ w) w F ρ { st.setBox l k (splice cs c (List.replicate sz .un)) with T := killRt (.B l k) st.T }
      (look { st.setBox l k (splice cs c (List.replicate sz .un)) with T := killRt (.B l k) st.T } tm ρ w) (fun r c q => ∃ x : IV, refAt x r c q ∧ IV.rooted (.B l k) x = false) := by
    refine ⟨fun r c2 q hlive x1 v1 e2 es2 A hn hcap hlk hfo => ?_, fun _ _ => rfl, fun _ h => h, fun l' k' hb => ⟨rfl, shp.box hb⟩⟩
    obtain ⟨e1, es1, rfl⟩ := folR_own hfo
    by_cases hr : r = .B l k
    · subst hr
      obtain ⟨x, hx1, hx2⟩ := hlive
      have : x.rooted (.B l k) = true := refAt_rooted hx1
      rw [this] at hx2; cases hx2
    · refine ⟨.own e1 es1, es2, ?_, hfo, Nat.le_refl _⟩
      cases r with
      | S s' =>
        obtain ⟨h1, h2⟩ := look_S hlk
        refine look_S_mk ?_ h2
        unfold killRt
        rw [tget_killBy]
        exact cells_kl hpk h1
      | B l' k' =>
        have hne : ¬ (l' = l ∧ k' = k) := fun hc => hr (by rw [hc.1, hc.2])
        have hb1 : ({ st.setBox l k (splice cs c (List.replicate sz .un)) with T := killRt (.B l k) st.T } : St).box l' k' = st.box l' k' := by
          rw [box_T, hbs, if_neg hne]
        simp only [look, hb1]
        simp only [look] at hlk
        exact hlk
  have hsub : ∀ q, ∀ b ∈ updFp fp (.B l k) (ρ l k :: (f1 ++ f2)) q, b ∈ fp q := fun q b hb => by
    unfold updFp at hb; split at hb
    · rename_i hq; subst hq
      rw [hfp]
      rcases List.mem_cons.1 hb with rfl | hb
      · simp
      · exact List.mem_cons_of_mem _ (hmem b hb)
    · exact hb
  have hgB : ∀ b ∈ g, b ∈ fp (.B l k) := fun b hb => by rw [hfp]; exact List.mem_cons_of_mem _ (hgmem b hb)
  have hgnot : ∀ q, ∀ b ∈ updFp fp (.B l k) (ρ l k :: (f1 ++ f2)) q, b ∉ g := fun q b hb hbg => by
    by_cases hq : q = .B l k
    · subst hq
      rw [show updFp fp (.B l k) (ρ l k :: (f1 ++ f2)) (.B l k) = ρ l k :: (f1 ++ f2) from if_pos rfl] at hb
      rcases List.mem_cons.1 hb with rfl | hb
      · exact hnin (hgmem _ hbg)
      · exact hdisj b hbg hb
    · exact h.disj q (.B l k) hq b (hsub q b hb) (hgB b hbg)
  refine ⟨updFp fp (.B l k) (ρ l k :: (f1 ++ f2)), g, us, C, ty, ⟨fun s' => ?_, fun l' k' cs' hb' => ?_, fun l' k' hb' => ?_, fun r => ?_, fun r r' hr b hb hb' => ?_, fun r b hb => h.notF r b (hsub r b hb), fun r b hb => h.lt r b (hsub r b hb), h.Flt, ?_, fun r b hb hx => ?_, fun b hb => ?_,
    fun b hb => ?_⟩, hx, hC, hus, by rw [← hCs, ← hcl]; exact hle, fun b hb => ⟨_, hgB b hb⟩, hsub, ⟨shp.M, shp.loc⟩⟩
  · unfold killRt
    rw [tget_killBy]
    have hne : (Rt.S s' : Rt) ≠ .B l k := fun hc => by cases hc
    rw [show updFp fp (.B l k) (ρ l k :: (f1 ++ f2)) (.S s') = fp (.S s') from if_neg hne]
    exact (h.slots s').trk tr hpk (liveK _) (fun _ _ => rfl)
  · rw [box_T, hbs] at hb'
    by_cases hlk : l' = l ∧ k' = k
    · obtain ⟨rfl, rfl⟩ := hlk
      simp only [and_self, if_true, Option.some.injEq] at hb'
      subst hb'
      exact ⟨C, ty, f1 ++ f2, if_pos rfl, hC, hnew.mono fun x v f' hf' hx _ => hx.tr tr (fun _ _ => rfl)⟩
    · rw [if_neg hlk] at hb'
      obtain ⟨C', ty', f', k1, k2, k3⟩ := h.boxes l' k' cs' hb'
      have hne : (Rt.B l' k' : Rt) ≠ .B l k := fun hc => hlk (by cases hc; exact ⟨rfl, rfl⟩)
      refine ⟨C', ty', f', by rw [show updFp fp (.B l k) (ρ l k :: (f1 ++ f2)) (.B l' k') = fp (.B l' k') from if_neg hne]; exact k1, k2, ?_⟩
      exact k3.mono fun x v f hf hx _ => hx.tr tr (fun _ _ => rfl)
  · rw [box_T, hbs] at hb'
    by_cases hlk : l' = l ∧ k' = k
    · rw [if_pos hlk] at hb'; cases hb'
    · rw [if_neg hlk] at hb'
      have hne : (Rt.B l' k' : Rt) ≠ .B l k := fun hc => hlk (by cases hc; exact ⟨rfl, rfl⟩)
      rw [show updFp fp (.B l k) (ρ l k :: (f1 ++ f2)) (.B l' k') = fp (.B l' k') from if_neg hne]
      exact h.nobox l' k' hb'
  · unfold updFp; split
    · refine List.nodup_cons.2 ⟨fun hm => hnin (hmem _ hm), ?_⟩
      rw [List.nodup_append]
      exact ⟨hn1.1, hn2.2.1, fun x hx y hy => hn1.2.2 x hx y (by simp [hy])⟩
    · exact h.nodup r
  · exact h.disj r r' hr b (hsub r b hb) (hsub r' b hb')
  · rw [List.nodup_append]
    exact ⟨hn2.1, h.xnodup, fun x hx y hy hxy => h.xdisj (.B l k) x (hgB x hx) (hxy ▸ hy)⟩
  · rcases List.mem_append.1 hx with hx | hx
    · exact hgnot r b hb hx
    · exact h.xdisj r b (hsub r b hb) hx
  · rcases List.mem_append.1 hb with hb | hb
    · exact h.notF _ b (hgB b hb)
    · exact h.xF b hb
  · rcases List.mem_append.1 hb with hb | hb
    · exact h.lt _ b (hgB b hb)
    · exact h.xlt b hb

end
end Go.Idl

/- Results of a call, in both worlds. Conditions: none (definitions and lemmas). -/
namespace Go.Idl
open Go

/-- A result variable of the model and its ideal twin. -/
def okRes (P : Program) : ResultVar → RVar → Prop
  | .tmp t, .t s => t = s
  | .cell a t, .c b sz ag => a = b ∧ sizeIs P t sz ∧ aggIs P t ag
  | _, _ => False
def okRess (P : Program) : List ResultVar → List RVar → Prop
  | [], [] => True
  | x :: xs, y :: ys => okRes P x y ∧ okRess P xs ys
  | _, _ => False

/-- A result variable's value. -/
def resRun (a : Act) : ResultVar → Sem Value
  | .tmp t => pure (a.tmps.getD t undef)
  | .cell b t => do loadVar t (← asAddr (a.tmps.getD b undef))

section
variable {cx : Cx} {w w' : World} {F F' : Nat → Prop} {ρ ρ' : Rho} {fp fp' : Fp} {X f f' fy : List Nat} {st st' : St} {a : Act} {tm : Nat → Value} {v : IV}

theorem RA.keep {x : IV} {u : Value} (h : RA cx w F ρ st x u f) (hs : ShpLe st st') : RA cx w F ρ st' x u f :=
  ⟨h.frame (fun _ _ => rfl) (fun _ _ => rfl) (fun _ h => h) (fun l k hb => ⟨rfl, hs.box hb⟩), h.2⟩

theorem ra_agg {cs : List IV} {us : Array Value} {lk} (hc : Cat (RC cx w F ρ st lk) cs us.toList f) (hd : ∀ y ∈ cs, y.isD = true) : RA cx w F ρ st (.agg cs) (.agg us) f :=
  ⟨⟨us, rfl, hc.mono fun x v f _ hx hm => hx.toNo (hd x hm)⟩, by simpa [IV.isA] using hd⟩

theorem ra_one {x : IV} {u : Value} {lk} (hx : RC cx w F ρ st lk x u f) (hd : x.isD = true) : RA cx w F ρ st x u f := by
  have := hx.toNo (cx := cx) (ρ := ρ) (st := st) hd
  refine ⟨?_, ?_⟩
  · cases x with
    | agg cs => simp [IV.isD] at hd
    | un => simp [IV.isD] at hd
    | _ => exact this
  · cases x with
    | agg cs => simp [IV.isD] at hd
    | _ => exact hd

theorem isData_isD {x : IV} (h : x.isData = true) : x.isD = true := by
  cases x <;> simp_all [IV.isData, IV.isD]

theorem RBox.isData_rc {l : Nat} {x : IV} {u : Value} {lk} (h : RBox cx w F ρ st l x u f) (hd : x.isData = true) : RC cx w F ρ st lk x u f := by
  rcases h with ⟨h, _⟩ | h
  · cases x <;> first | (simp [IV.isData] at hd; done) | exact h.elim
  · exact .inr h

theorem shp_T (st : St) (T : Tm) : ShpLe st { st with T := T } := ⟨rfl, Nat.le_refl _⟩

theorem retv_rel (h : Rel cx w F ρ fp X st (regs a)) {r : ResultVar} {x : RVar} (hx : okRes cx.P r x) (ha : st.retv x = some (v, st')) :
    ∃ fp' fv u, Rel cx w F ρ fp' (fv ++ X) st' (regs a) ∧ RA cx w F ρ st' v u fv ∧ (resRun a r).run cx.P w = .ok u w ∧ (∀ b ∈ fv, ∃ r, b ∈ fp r) ∧ (∀ r, ∀ b ∈ fp' r, b ∈ fp r) ∧ ShpLe st st' := by
  cases x with
  | t s =>
    cases r with
    | cell b t => exact hx.elim
    | tmp t =>
    have hts : t = s := hx
    subst hts
    have hrun : (resRun a (.tmp t)).run cx.P w = .ok (a.tmps.getD t undef) w := rfl
    obtain ⟨h1, h2⟩ := h.drop t
    have hsub : ∀ r, ∀ b ∈ updFp fp (.S t) [] r, b ∈ fp r := fun r b hb => by
      unfold updFp at hb; split at hb
      · cases hb
      · exact hb
    simp only [St.retv] at ha
    generalize hz : kl (IV.rooted (.S t)) (tget st.T t) = z at *
    have one : ∀ {y : IV}, RC cx w F ρ { st with T := dropSlot t st.T } (look { st with T := dropSlot t st.T } (regs a) ρ w) z (regs a t) (fp (.S t)) → ({ st with T := dropSlot t st.T } : St).absorb z = some (y, st') →
        ∃ fp' fv u, Rel cx w F ρ fp' (fv ++ X) st' (regs a) ∧ RA cx w F ρ st' y u fv ∧ (resRun a (.tmp t)).run cx.P w = .ok u w ∧ (∀ b ∈ fv, ∃ r, b ∈ fp r) ∧ (∀ r, ∀ b ∈ fp' r, b ∈ fp r) ∧ ShpLe st st' := by
      intro y hz hab
      obtain ⟨fp', f', k1, k2, k3, k4, k5, k6, -⟩ := h1.absorb hz hab
      refine ⟨fp', f', regs a t, k1, ra_one k2 k3, hrun, fun b hb => ?_, fun r b hb => hsub r b (k5 r b hb), (shp_T st _).trans k6⟩
      rcases k4 b hb with hb | ⟨r, hb⟩
      · exact ⟨_, hb⟩
      · exact ⟨r, hsub r b hb⟩
    cases z with
    | agg cs =>
      simp only at ha
      obtain ⟨C, hC, hc⟩ := h2
      cases hab : ({ st with T := dropSlot t st.T } : St).absorbs cs with
      | none => simp [hab] at ha
      | some p =>
      obtain ⟨ys, st2⟩ := p
      simp only [hab, Option.some.injEq, Prod.mk.injEq] at ha
      obtain ⟨rfl, rfl⟩ := ha
      obtain ⟨fp', fy, k1, k2, k3, k4, k5, k6⟩ := h1.absorbs hc hab
      refine ⟨fp', fy, .agg C, k1, ra_agg k2 k3, ?_, fun b hb => ?_, fun r b hb => hsub r b (k5 r b hb), (shp_T st _).trans k6⟩
      · rw [hrun, ← hC]; rfl
      · rcases k4 b hb with hb | ⟨r, hb⟩
        · exact ⟨_, hb⟩
        · exact ⟨r, hsub r b hb⟩
    | tup vs => simp [St.absorb] at ha
    | un => simp [St.absorb] at ha
    | sc u => exact one h2 ha
    | lst e es c => exact one h2 ha
    | own e es => exact one h2 ha
    | arr r c p e off n cl => exact one h2 ha
    | eptr r c p i j => simp [St.absorb] at ha
    | lptr e j => simp [St.absorb] at ha
    | bptr l k c => exact one h2 ha
    | fn g cs => exact one h2 ha
  | c b sz ag =>
    cases r with
    | tmp t => exact hx.elim
    | cell b' t =>
    obtain ⟨hb', hsz, hag⟩ := hx
    subst hb'
    simp only [St.retv] at ha
    split at ha
    rotate_left
    · cases ha
    rename_i l k c hT
    split at ha
    rotate_left
    · cases ha
    rename_i cs hbox
    split at ha
    rotate_left
    · cases ha
    rename_i xs hsub
    split at ha
    rotate_left
    · cases ha
    rename_i hdat
    split at ha
    rotate_left
    · cases ha
    rename_i pv hp
    simp only [Option.some.injEq, Prod.mk.injEq] at ha
    obtain ⟨rfl, rfl⟩ := ha
    have hs := h.slots b'
    rw [hT] at hs
    have hptr : a.tmps.getD b' undef = .pointer (some ⟨ρ l k, c, none⟩) := by
      rcases hs with ⟨⟨hs, _⟩, _⟩ | hs
      · exact hs
      · cases hs
    obtain ⟨fp', fx, us, C, ty, k1, k2, k3, k4, k5, k6, k7, k8⟩ := h.takeBox hbox hsub
    have hlen := k2.len
    have hxl : xs.length = sz := by
      have hCs : C.toList.length = C.size := Array.length_toList
      rw [hlen, k4, List.length_take, List.length_drop]; omega
    have hdat' : ∀ y ∈ xs, y.isData = true := by simpa using hdat
    have hcells : ∀ j u, us[j]? = some u → w.cell? ((⟨ρ l k, c, none⟩ : Addr).add j) = some u := by
      intro j u hj
      have hjl : j < sz := by
        rcases Nat.lt_or_ge j sz with hh | hh
        · exact hh
        · rw [List.getElem?_eq_none (by omega)] at hj; cases hj
      rw [k4, drop_take_get hjl] at hj
      rw [addr_add, cell_of k3, hj]
    have hrc : Cat (RC cx w F ρ { st.setBox l k (splice cs c (List.replicate sz .un)) with T := killRt (.B l k) st.T } noLk) xs us fx :=
      k2.mono fun x u f _ hx hm => (hx.lv (ρ' := ρ) (st' := { st.setBox l k (splice cs c (List.replicate sz .un)) with T := killRt (.B l k) st.T }) (fun l' k' _ hb => ⟨rfl, k8.box hb⟩)).isData_rc (hdat' x hm)
    rcases pack_some hp with ⟨rfl, rfl⟩ | ⟨rfl, y, rfl, rfl⟩
    · refine ⟨fp', fx, .agg us.toArray, k1, ra_agg (by simpa using hrc) (fun y hy => isData_isD (hdat' y hy)), ?_, k6, k7, k8⟩
      have := run_loadCells_list (P := cx.P) w ⟨ρ l k, c, none⟩ us hcells
      rw [← hlen, hxl] at this
      simp [resRun, hptr, asAddr, loadVar, run_isAgg hag, run_sizeOf hsz, this]
    · cases us with
      | nil => simp at hlen
      | cons u us =>
      cases us with
      | cons _ _ => simp at hlen
      | nil =>
      have hu := hcells 0 u rfl
      rw [show (⟨ρ l k, c, none⟩ : Addr).add 0 = ⟨ρ l k, c, none⟩ from rfl] at hu
      have hy : RC cx w F ρ { st.setBox l k (splice cs c (List.replicate sz .un)) with T := killRt (.B l k) st.T } noLk pv u fx := by
        generalize hx1 : [pv] = l1 at hrc
        generalize hu1 : [u] = l2 at hrc
        cases hrc with
        | nil => cases hx1
        | cons hh tt =>
          cases hx1; cases hu1
          rw [tt.nil_inv.2]; simpa using hh
      refine ⟨fp', fx, u, k1, ra_one hy (isData_isD (hdat' pv (by simp))), ?_, k6, k7, k8⟩
      simp [resRun, hptr, asAddr, loadVar, run_isAgg hag, run_load, hu]

theorem retvs_rel : ∀ {rs : List ResultVar} {xs : List RVar} {X : List Nat} {fp : Fp} {st st' : St} {vs : List IV}, Rel cx w F ρ fp X st (regs a) → okRess cx.P rs xs → st.retvs xs = some (vs, st') →
    ∃ fp' fv us, Rel cx w F ρ fp' (fv ++ X) st' (regs a) ∧ Cat (RA cx w F ρ st') vs us fv ∧ (rs.mapM (resRun a)).run cx.P w = .ok us w ∧ (∀ b ∈ fv, ∃ r, b ∈ fp r) ∧ (∀ r, ∀ b ∈ fp' r, b ∈ fp r) ∧ ShpLe st st'
  | [], [], X, fp, st, st', vs, h, _, ha => by
    simp only [St.retvs, Option.some.injEq, Prod.mk.injEq] at ha
    obtain ⟨rfl, rfl⟩ := ha
    exact ⟨fp, [], [], h, .nil, by simp, by simp, fun _ _ h => h, .refl _⟩
  | [], _ :: _, _, _, _, _, _, _, hk, _ => hk.elim
  | _ :: _, [], _, _, _, _, _, _, hk, _ => hk.elim
  | r :: rs, x :: xs, X, fp, st, st', vs, h, hk, ha => by
    simp only [St.retvs] at ha
    cases h1 : st.retv x with
    | none => simp [h1] at ha
    | some p =>
    obtain ⟨v1, st1⟩ := p
    simp only [h1] at ha
    cases h2 : st1.retvs xs with
    | none => simp [h2] at ha
    | some p =>
    obtain ⟨vs2, st2⟩ := p
    simp only [h2, Option.some.injEq, Prod.mk.injEq] at ha
    obtain ⟨rfl, rfl⟩ := ha
    obtain ⟨fp1, fv1, u1, k1, k2, k3, k4, k5, k6⟩ := retv_rel h hk.1 h1
    obtain ⟨fp2, fv2, us2, q1, q2, q3, q4, q5, q6⟩ := retvs_rel k1 hk.2 h2
    refine ⟨fp2, fv1 ++ fv2, u1 :: us2, q1.perm ?_, Cat.cons (k2.keep q6) q2, ?_, fun b hb => ?_, fun r b hb => k5 r b (q5 r b hb), k6.trans q6⟩
    · rw [← List.append_assoc]
      exact List.Perm.append_right X List.perm_append_comm
    · rw [List.mapM_cons]
      simp [Sem.run_bind, k3, q3]
    · rcases List.mem_append.1 hb with hb | hb
      · exact k4 b hb
      · obtain ⟨r, hb⟩ := q4 b hb
        exact ⟨r, k5 r b hb⟩

def packU : List Value → Value
  | [u] => u
  | us => .tuple us.toArray

theorem results_run {fn : Func} {us : List Value} (h : (fn.results.toList.mapM (resRun a)).run cx.P w = .ok us w) :
    (results fn a.tmps).run cx.P w = .ok (packU us) w := by
  have h1 : (fn.results.mapM (resRun a)).run cx.P w = .ok us.toArray w := by
    rw [Array.mapM_eq_mapM_toList]
    simp [h]
  have h2 : (results fn a.tmps) = (do let vs ← fn.results.mapM (resRun a); pure (if h : vs.size = 1 then vs[0] else .tuple vs)) := by
    unfold results
    have : (fun r : ResultVar => match r with
      | .tmp t => pure (a.tmps.getD t undef)
      | .cell b t => do loadVar t (← asAddr (a.tmps.getD b undef))) = resRun a := by
      funext r
      cases r <;> rfl
    rw [← this]
    rfl
  rw [h2, Sem.run_bind, h1, Result.andThen_ok]
  cases us with
  | nil => rfl
  | cons u us =>
    cases us with
    | nil => rfl
    | cons v r => rfl

end
end Go.Idl

/- What a call hands back. Conditions: none (lemmas). -/
namespace Go.Idl
open Go

section
variable {cx : Cx} {w w' : World} {F F' : Nat → Prop} {ρ ρ' : Rho} {fp fp' : Fp} {X f f' fy Xb fv : List Nat} {st st' : St} {a : Act} {tm : Nat → Value} {v : IV}

theorem backs_rel : ∀ {lent : List Nat} {X : List Nat} {fp : Fp} {st st' : St} {back : List IV} {vs : List Value}, Rel cx w F ρ fp X st (regs a) → st.backs lent = some (back, st') → (∀ s ∈ lent, regs a s = vs.getD s undef) →
    ∃ fp' Xb, Rel cx w F ρ fp' (Xb ++ X) st' (regs a) ∧ BackR w F vs lent back Xb ∧ (∀ b ∈ Xb, ∃ r, b ∈ fp r) ∧ (∀ r, ∀ b ∈ fp' r, b ∈ fp r) ∧ ShpLe st st' ∧ st'.M = st.M ∧ st'.loc = st.loc
  | [], X, fp, st, st', back, vs, h, ha, _ => by
    simp only [St.backs, Option.some.injEq, Prod.mk.injEq] at ha
    obtain ⟨rfl, rfl⟩ := ha
    exact ⟨fp, [], h, rfl, by simp, fun _ _ h => h, .refl _, rfl, rfl⟩
  | s :: lent, X, fp, st, st', back, vs, h, ha, hv => by
    simp only [St.backs] at ha
    split at ha
    rotate_left
    · cases ha
    rename_i e es hT
    split at ha
    rotate_left
    · cases ha
    rename_i ys st2 hb
    simp only [Option.some.injEq, Prod.mk.injEq] at ha
    obtain ⟨rfl, rfl⟩ := ha
    obtain ⟨h1, h2⟩ := h.drop s
    rw [hT] at h2
    have hkl : kl (IV.rooted (.S s)) (.own e es) = .own e es := rfl
    rw [hkl] at h2
    have hd : RDs w F [.own e es] [regs a s] (fp (.S s)) := by
      rcases h2 with ⟨h2, _⟩ | h2
      · exact h2.elim
      · exact h2
    have hsub : ∀ r, ∀ b ∈ updFp fp (.S s) [] r, b ∈ fp r := fun r b hb => by
      unfold updFp at hb; split at hb
      · cases hb
      · exact hb
    obtain ⟨fp', Xb, k1, k2, k3, k4, k5, k6, k7⟩ := backs_rel h1 hb (fun s' hs' => hv s' (by simp [hs']))
    refine ⟨fp', fp (.S s) ++ Xb, k1.perm ?_, ⟨fp (.S s), Xb, rfl, by rw [← hv s (by simp)]; exact hd, k2⟩, fun b hb => ?_, fun r b hb => hsub r b (k4 r b hb), (shp_T st _).trans k5, k6, k7⟩
    · rw [← List.append_assoc]
      exact List.Perm.append_right X List.perm_append_comm
    · rcases List.mem_append.1 hb with hb | hb
      · exact ⟨_, hb⟩
      · obtain ⟨r, hb⟩ := k3 b hb
        exact ⟨r, hsub r b hb⟩

/-- A value that names no box of the level L or above. -/
def IV.okLvl (L : Nat) : IV → Bool
  | .agg cs => cs.all IV.isData
  | x => x.lvl L

theorem isData_rds {lk} {x : IV} {u : Value} (h : RC cx w F ρ st lk x u f) (hd : x.isData = true) : RDs w F [x] [u] f := by
  rcases h with ⟨h, _⟩ | h
  · cases x <;> first | (simp [IV.isData] at hd; done) | exact h.elim
  · exact h

theorem RA.lv {L : Nat} {lk} {x : IV} {u : Value} (h : RA cx w F ρ st x u f) (hx : x.okLvl L = true) (hb : ∀ l k, l < L → (st.box l k).isSome = true → ρ' l k = ρ l k ∧ (st'.box l k).isSome = true) : RComp cx w F ρ' st' lk x u f := by
  obtain ⟨h, hA⟩ := h
  cases x with
  | agg cs =>
    obtain ⟨C, rfl, hc⟩ := h
    refine ⟨C, rfl, hc.mono fun x v f _ hz hm => .inr (isData_rds hz ?_)⟩
    exact List.all_eq_true.1 hx x hm
  | sc u => exact .inr (isData_rds h rfl)
  | lst e es c => exact .inr (isData_rds h rfl)
  | own e es => exact .inr (isData_rds h rfl)
  | bptr l k c =>
    rcases h with ⟨⟨h1, h2⟩, h3⟩ | h
    · have hl : l < L := by simpa [IV.okLvl, IV.lvl] using hx
      obtain ⟨k1, k2⟩ := hb l k hl h2
      exact .inl ⟨⟨by rw [k1]; exact h1, k2⟩, h3⟩
    · cases h
  | fn g caps =>
    rcases h with ⟨⟨cvs, h1, h2⟩, h3⟩ | h
    · refine .inl ⟨⟨cvs, h1, h2.mono fun z v f _ hz hm => ⟨?_, hz.2⟩⟩, h3⟩
      have hz2 := List.all_eq_true.1 hx z hm
      cases z with
      | bptr l' k c =>
        obtain ⟨⟨h5, h6⟩, _⟩ := hz
        have hl : l' < L := by simpa using hz2
        obtain ⟨k1, k2⟩ := hb l' k hl h6
        exact ⟨by rw [k1]; exact h5, k2⟩
      | _ => exact hz.1.elim
    · cases h
  | _ => simp [IV.isA, IV.isD] at hA

/-- The frame is left: one box of it may go with the result. -/
theorem Rel.leaveR (h : Rel cx w F ρ fp (Xb ++ fv) st (regs a)) {v : IV} {u : Value} {back : List IV} {e : Option Nat} {exp : Boxes}
    (he : (e = none ∧ exp = []) ∨ (∃ k0 cs, e = some k0 ∧ st.loc[k0]? = some cs ∧ cs.all IV.isData = true ∧ exp = [cs]))
    (hv : ∀ (ρ' : Rho) lk, (∀ l k, l < st.M.length → ρ' l k = ρ l k) → (∀ k0, e = some k0 → ρ' st.M.length 0 = ρ st.M.length k0) → RSlot cx w F ρ' (retSt ⟨v, back, st.M, exp⟩) lk v u fv) :
    ∃ ρ' fp', Rel cx w F ρ' fp' Xb (retSt ⟨v, back, st.M, exp⟩) (retTm u) ∧ (∀ q, ∀ b ∈ fp' q, (∃ r, b ∈ fp r) ∨ b ∈ fv) ∧ ∀ l k, l < st.M.length → ρ' l k = ρ l k := by
  let L := st.M.length
  let ρN : Rho := fun l k => if l = L then ρ L (e.getD 0) else ρ l k
  let rt : Rt → Option Rt := fun
    | .S _ => none
    | .B l k => if l < L then some (.B l k) else if l = L ∧ k = 0 then e.map (.B L ·) else none
  let fpN : Fp := fun
    | .S s => if s = 0 then fv else []
    | .B l k => match rt (.B l k) with
      | some q => fp q
      | none => []
  have hρ : ∀ l k, l < L → ρN l k = ρ l k := fun l k hl => by
    have : l ≠ L := by omega
    simp [ρN, this]
  have hρe : ∀ k0, e = some k0 → ρN L 0 = ρ L k0 := fun k0 hk => by simp [ρN, hk]
  have hbox1 : ∀ l k, l < L → (retSt ⟨v, back, st.M, exp⟩).box l k = st.box l k := fun l k hl => by
    have : l ≠ st.M.length := by show l ≠ L; omega
    simp [retSt, St.box, this]
  have hbox2 : ∀ k, (retSt ⟨v, back, st.M, exp⟩).box L k = exp[k]? := fun k => by simp [retSt, St.box, L]
  have hbox3 : ∀ l k, L < l → (retSt ⟨v, back, st.M, exp⟩).box l k = none := fun l k hl => by
    have h1 : l ≠ st.M.length := by show l ≠ L; omega
    have h2 : st.M[l]? = none := List.getElem?_eq_none (by show L ≤ l; omega)
    simp [retSt, St.box, h1, h2]
  have hstL : ∀ k, st.box L k = st.loc[k]? := fun k => by simp [St.box, L]
  -- where a root of the new state comes from
  have hfp : ∀ q b, b ∈ fpN q → (∃ r, rt q = some r ∧ b ∈ fp r) ∨ (q = .S 0 ∧ b ∈ fv) := by
    intro q b hb
    cases q with
    | S s =>
      by_cases hs : s = 0
      · subst hs; exact .inr ⟨rfl, by simpa [fpN] using hb⟩
      · simp [fpN, hs] at hb
    | B l k =>
      simp only [fpN] at hb
      split at hb
      · rename_i q hq; exact .inl ⟨q, hq, hb⟩
      · cases hb
  have hrt : ∀ q q' r, rt q = some r → rt q' = some r → q = q' := by
    intro q q' r h1 h2
    cases q with
    | S s => simp [rt] at h1
    | B l k =>
      cases q' with
      | S s => simp [rt] at h2
      | B l' k' =>
        simp only [rt] at h1 h2
        split at h1
        · split at h2
          · rw [← h1] at h2; simp only [Option.some.injEq, Rt.B.injEq] at h2; obtain ⟨rfl, rfl⟩ := h2; rfl
          · split at h2
            · cases e with
              | none => simp at h2
              | some k0 =>
                simp only [Option.map_some, Option.some.injEq] at h1 h2
                rw [← h1] at h2
                simp only [Rt.B.injEq] at h2
                omega
            · cases h2
        · split at h1
          · rename_i hlk
            split at h2
            · cases e with
              | none => simp at h1
              | some k0 =>
                simp only [Option.map_some, Option.some.injEq] at h1 h2
                rw [← h1] at h2
                simp only [Rt.B.injEq] at h2
                omega
            · split at h2
              · rename_i hlk'
                rw [hlk.1, hlk.2, hlk'.1, hlk'.2]
              · cases h2
          · cases h1
  have hX := List.nodup_append.1 h.xnodup
  have hXb : ∀ b ∈ Xb, b ∈ Xb ++ fv := fun b hb => by simp [hb]
  have hXv : ∀ b ∈ fv, b ∈ Xb ++ fv := fun b hb => by simp [hb]
  have hrd : ∀ (l : Nat) {x : IV} {u : Value} {g : List Nat}, l < L → RBox cx w F ρ st l x u g → RBox cx w F ρN (retSt ⟨v, back, st.M, exp⟩) l x u g := fun l x u g hl hx =>
    hx.lv fun l' k' hl' hb => ⟨hρ l' k' (by omega), by rw [hbox1 l' k' (by omega)]; exact hb⟩
  refine ⟨ρN, fpN, ⟨fun s => ?_, fun l k cs hb => ?_, fun l k hb => ?_, fun q => ?_, fun q q' hq b hb hb' => ?_, fun q b hb => ?_, fun q b hb => ?_, h.Flt, hX.1, fun q b hb hx => ?_, fun b hb => h.xF b (hXb b hb), fun b hb => h.xlt b (hXb b hb)⟩, fun q b hb => ?_, hρ⟩
  · by_cases hs : s = 0
    · subst hs
      have := hv ρN (look (retSt ⟨v, back, st.M, exp⟩) (retTm u) ρN w) hρ hρe
      simpa [retSt, tget, retTm, fpN] using this
    · have h1 : tget (retSt ⟨v, back, st.M, exp⟩).T s = .un := by
        have : ¬ (0 = s) := fun h => hs h.symm
        simp [retSt, tget, this]
      rw [h1, show fpN (.S s) = [] from by simp [fpN, hs]]
      exact rcomp_un
  · rcases Nat.lt_trichotomy l L with hl | hl | hl
    · rw [hbox1 l k hl] at hb
      obtain ⟨C, ty, f0, k1, k2, k3⟩ := h.boxes l k cs hb
      refine ⟨C, ty, f0, ?_, by rw [hρ l k hl]; exact k2, k3.mono fun x v f _ hx _ => hrd l hl hx⟩
      rw [hρ l k hl, ← k1]
      simp [fpN, rt, hl]
    · subst hl
      rw [hbox2 k] at hb
      rcases he with ⟨_, rfl⟩ | ⟨k0, cs0, rfl, hk0, hdat, rfl⟩
      · simp at hb
      · cases k with
        | succ k => simp at hb
        | zero =>
          simp only [List.getElem?_cons_zero, Option.some.injEq] at hb
          subst hb
          obtain ⟨C, ty, f0, k1, k2, k3⟩ := h.boxes L k0 cs0 (by rw [hstL]; exact hk0)
          refine ⟨C, ty, f0, ?_, by rw [hρe k0 rfl]; exact k2, k3.mono fun x v f _ hx hm => hx.data (List.all_eq_true.1 hdat x hm)⟩
          rw [hρe k0 rfl, ← k1]
          simp [fpN, rt]
    · rw [hbox3 l k hl] at hb; cases hb
  · rcases Nat.lt_trichotomy l L with hl | hl | hl
    · rw [hbox1 l k hl] at hb
      have := h.nobox l k hb
      simpa [fpN, rt, hl] using this
    · subst hl
      rw [hbox2 k] at hb
      rcases he with ⟨rfl, rfl⟩ | ⟨k0, cs0, rfl, hk0, hdat, rfl⟩
      · simp [fpN, rt]
      · cases k with
        | succ k => simp [fpN, rt]
        | zero => simp at hb
    · have h1 : ¬ l < L := by omega
      have h2 : ¬ l = L := by omega
      simp [fpN, rt, h1, h2]
  · cases q with
    | S s => by_cases hs : s = 0
             · subst hs; simpa [fpN] using hX.2.1
             · simp [fpN, hs]
    | B l k =>
      simp only [fpN]
      split
      · exact h.nodup _
      · exact List.nodup_nil
  · rcases hfp q b hb with ⟨r, h1, h2⟩ | ⟨rfl, h2⟩
    · rcases hfp q' b hb' with ⟨r', h3, h4⟩ | ⟨rfl, h4⟩
      · by_cases hrr : r = r'
        · subst hrr; exact hq (hrt q q' r h1 h3)
        · exact h.disj r r' hrr b h2 h4
      · exact h.xdisj r b h2 (hXv b h4)
    · rcases hfp q' b hb' with ⟨r', h3, h4⟩ | ⟨rfl, h4⟩
      · exact h.xdisj r' b h4 (hXv b h2)
      · exact hq rfl
  · rcases hfp q b hb with ⟨r, h1, h2⟩ | ⟨rfl, h2⟩
    · exact h.notF r b h2
    · exact h.xF b (hXv b h2)
  · rcases hfp q b hb with ⟨r, h1, h2⟩ | ⟨rfl, h2⟩
    · exact h.lt r b h2
    · exact h.xlt b (hXv b h2)
  · rcases hfp q b hb with ⟨r, h1, h2⟩ | ⟨rfl, h2⟩
    · exact h.xdisj r b h2 (hXb b hx)
    · exact hX.2.2 b hx b h2 rfl
  · rcases hfp q b hb with ⟨r, h1, h2⟩ | ⟨rfl, h2⟩
    · exact .inl ⟨r, h2⟩
    · exact .inr h2

end
end Go.Idl

/- The end of a call's body: what stands behind the call. Conditions: none (lemmas). -/
namespace Go.Idl
open Go

def okRet (L : Nat) : IV → Bool
  | .tup vs => vs.all (IV.okLvl L)
  | x => x.okLvl L

theorem leave_some {st : St} {v : IV} {back : List IV} {r : Ret} (h : st.leave v back = some r) : r.back = back ∧ r.M = st.M ∧
    ((r.v = v ∧ r.exp = [] ∧ okRet st.M.length v = true) ∨ ∃ k c cs, v = .bptr st.M.length k c ∧ st.loc[k]? = some cs ∧ cs.all IV.isData = true ∧ r.v = .bptr st.M.length 0 c ∧ r.exp = [cs]) := by
  have lv : ∀ x : IV, x.lvl st.M.length = true → (∀ cs, x ≠ .agg cs) → (∀ vs, x ≠ .tup vs) → okRet st.M.length x = true := by
    intro x hx h1 h2
    cases x <;> first | exact (h1 _ rfl).elim | exact (h2 _ rfl).elim | exact hx
  cases v with
  | bptr l k c =>
    simp only [St.leave] at h
    split at h
    · rename_i hl
      split at h
      · rename_i cs hcs
        split at h
        · rename_i hd
          simp only [Option.some.injEq] at h
          subst h
          subst hl
          exact ⟨rfl, rfl, .inr ⟨k, c, cs, rfl, hcs, hd, rfl, rfl⟩⟩
        · cases h
      · cases h
    · split at h
      · rename_i hl
        simp only [Option.some.injEq] at h
        subst h
        exact ⟨rfl, rfl, .inl ⟨rfl, rfl, by simpa [okRet, IV.okLvl, IV.lvl] using hl⟩⟩
      · cases h
  | agg cs =>
    simp only [St.leave] at h
    split at h
    · rename_i hd
      simp only [Option.some.injEq] at h
      subst h
      exact ⟨rfl, rfl, .inl ⟨rfl, rfl, hd⟩⟩
    · cases h
  | tup vs =>
    simp only [St.leave] at h
    split at h
    · rename_i hd
      simp only [Option.some.injEq] at h
      subst h
      refine ⟨rfl, rfl, .inl ⟨rfl, rfl, ?_⟩⟩
      rw [List.all_eq_true] at hd
      simp only [okRet, List.all_eq_true]
      intro x hx
      have := hd x hx
      cases x <;> exact this
    · cases h
  | sc u =>
    simp only [St.leave] at h
    split at h
    · rename_i hd
      simp only [Option.some.injEq] at h
      subst h
      exact ⟨rfl, rfl, .inl ⟨rfl, rfl, hd⟩⟩
    · cases h
  | lst e es c =>
    simp only [St.leave] at h
    split at h
    · rename_i hd
      simp only [Option.some.injEq] at h
      subst h
      exact ⟨rfl, rfl, .inl ⟨rfl, rfl, hd⟩⟩
    · cases h
  | own e es =>
    simp only [St.leave] at h
    split at h
    · rename_i hd
      simp only [Option.some.injEq] at h
      subst h
      exact ⟨rfl, rfl, .inl ⟨rfl, rfl, hd⟩⟩
    · cases h
  | fn g cs =>
    simp only [St.leave] at h
    split at h
    · rename_i hd
      simp only [Option.some.injEq] at h
      subst h
      exact ⟨rfl, rfl, .inl ⟨rfl, rfl, hd⟩⟩
    · cases h
  | arr => simp [St.leave, IV.lvl] at h
  | eptr => simp [St.leave, IV.lvl] at h
  | lptr => simp [St.leave, IV.lvl] at h
  | un => simp [St.leave, IV.lvl] at h

section
variable {cx : Cx} {w w0 : World} {F F0 : Nat → Prop} {ρ ρ0 : Rho} {fp fp0 : Fp} {Xb fv : List Nat} {st st1 st2 : St} {a : Act}

theorem cat_one {R : IV → Value → List Nat → Prop} {x : IV} {us : List Value} {f : List Nat} (h : Cat R [x] us f) : ∃ u, us = [u] ∧ R x u f := by
  cases h with
  | cons h t => obtain ⟨rfl, rfl⟩ := t.nil_inv; exact ⟨_, rfl, by simpa using h⟩

theorem pack_slot {vals : List IV} {us : List Value} {st' : St} {ρ' : Rho} {lk} (hc : Cat (RA cx w F ρ st) vals us fv) (hk : okRet st.M.length (packRes vals) = true)
    (hb : ∀ l k, l < st.M.length → (st.box l k).isSome = true → ρ' l k = ρ l k ∧ (st'.box l k).isSome = true) : RSlot cx w F ρ' st' lk (packRes vals) (packU us) fv ∧ (packRes vals).isRet = true := by
  have many : ∀ {vals : List IV} {us : List Value}, Cat (RA cx w F ρ st) vals us fv → vals.all (IV.okLvl st.M.length) = true → RSlot cx w F ρ' st' lk (.tup vals) (.tuple us.toArray) fv ∧ (IV.tup vals).isRet = true := by
    intro vals us hc hk
    refine ⟨⟨us.toArray, rfl, ?_⟩, ?_⟩
    · simpa using hc.mono fun x u f _ hx hm => hx.lv (List.all_eq_true.1 hk x hm) hb
    · simp only [IV.isRet, List.all_eq_true]
      intro x hx
      have : ∀ {xs us f}, Cat (RA cx w F ρ st) xs us f → ∀ x ∈ xs, x.isA = true := by
        intro xs us f hc
        induction hc with
        | nil => simp
        | cons h t ih => intro x hx; rcases List.mem_cons.1 hx with rfl | hx
                         · exact h.2
                         · exact ih x hx
      exact this hc x hx
  match vals, hc, hk with
  | [], hc, hk =>
    obtain ⟨rfl, rfl⟩ := hc.nil_inv
    exact many .nil rfl
  | [v], hc, hk =>
    obtain ⟨u, rfl, hx⟩ := cat_one hc
    have hA := hx.2
    have ht : ∀ vs, v ≠ .tup vs := fun vs he => by rw [he] at hA; simp [IV.isA, IV.isD] at hA
    have hk' : v.okLvl st.M.length = true := by
      simp only [packRes] at hk
      cases v <;> first | exact (ht _ rfl).elim | exact hk
    refine ⟨rcomp_slot (hx.lv hk' hb), ?_⟩
    simp only [packRes]
    cases v <;> first | exact (ht _ rfl).elim | exact hA
  | v1 :: v2 :: r, hc, hk =>
    have hl := hc.len
    match us, hl with
    | u1 :: u2 :: s, _ => exact many hc hk

theorem leave_ok {P : Program} {fn : Func} {f : IFun} {args : List IV} {M : List Boxes} {lent : List Nat} {vs : List Value} {r : Ret} (hP : cx.P = P) (hR : Rel cx w F ρ fp [] st (regs a))
    (hE : Ext w0 F0 ρ0 fp0 [] (exB (argSt args M)) w F ρ fp []) (hS : ShpLe (argSt args M) st) (hres : okRess P fn.results.toList f.res) (hkeep : ∀ s ∈ lent, regs a s = vs.getD s undef)
    {vals : List IV} (h1 : st.retvs f.res = some (vals, st1)) {back : List IV} (h2 : st1.backs lent = some (back, st2)) (h3 : st2.leave (packRes vals) back = some r) :
    ∃ u, (results fn a.tmps).run P w = .ok u w ∧ RetPost cx w0 F0 ρ0 fp0 M lent vs r (.returned u) w := by
  subst hP
  obtain ⟨fp1, fv, us, a1, a2, a3, a4, a5, a6⟩ := retvs_rel hR hres h1
  obtain ⟨fp2, Xb, b1, b2, b3, b4, b5, b6, b7⟩ := backs_rel a1 h2 hkeep
  rw [List.append_nil] at b1
  have hvals : Cat (RA cx w F ρ st2) vals us fv := a2.mono fun x u f _ hx _ => hx.keep b5
  have hM2 : st2.M.map List.length = M.map List.length := by
    rw [b5.M, a6.M, hS.M]; rfl
  have hML : st2.M.length = M.length := by
    have := congrArg List.length hM2
    simpa using this
  have hsub2 : ∀ r, ∀ b ∈ fp2 r, b ∈ fp r := fun r b hb => a5 r b (b4 r b hb)
  have hXbs : ∀ b ∈ Xb, ∃ r, b ∈ fp r := fun b hb => by obtain ⟨r, hb⟩ := b3 b hb; exact ⟨r, a5 r b hb⟩
  -- boxes of the levels below
  have hbx : ∀ l k, (({ T := [], loc := [], M := M } : St).box l k).isSome = true → l < M.length ∧ exB (argSt args M) l k := by
    intro l k hb
    have hl : l < M.length := by
      rcases Nat.lt_trichotomy l M.length with hl | hl | hl
      · exact hl
      · subst hl; simp [St.box] at hb
      · have h0 : l ≠ M.length := by omega
        have : M[l]? = none := List.getElem?_eq_none (by omega)
        simp [St.box, h0, this] at hb
    exact ⟨hl, hb⟩
  -- the conclusion, once the frame is left
  have fin : ∀ {v : IV} {exp : Boxes} {ρ' : Rho} {fp' : Fp}, r = ⟨v, back, st2.M, exp⟩ → Rel cx w F ρ' fp' Xb (retSt ⟨v, back, st2.M, exp⟩) (retTm (packU us)) → (∀ q, ∀ b ∈ fp' q, (∃ r, b ∈ fp2 r) ∨ b ∈ fv) → (∀ l k, l < st2.M.length → ρ' l k = ρ l k) →
      v.isRet = true → exp.all (·.all IV.isData) = true → RetPost cx w0 F0 ρ0 fp0 M lent vs r (.returned (packU us)) w := by
    intro v exp ρ' fp' hr q1 q2 q3 q4 q5
    subst hr
    have hsrc : ∀ q, ∀ b ∈ fp' q, ∃ r, b ∈ fp r := fun q b hb => by
      rcases q2 q b hb with ⟨r, hb⟩ | hb
      · exact ⟨r, hsub2 r b hb⟩
      · exact a4 b hb
    refine ⟨packU us, F, ρ', fp', Xb, rfl, q1, ⟨hE.size, hE.keep, fun q b hb => ?_, fun b hb => ?_, hE.Fm, hE.Fn, fun l k hb => ?_, hE.env⟩, hM2, b2, q4, q5⟩
    · obtain ⟨r, hb⟩ := hsrc q b hb; exact hE.fpn r b hb
    · obtain ⟨r, hb⟩ := hXbs b hb; exact hE.fpn r b hb
    · obtain ⟨k1, k2⟩ := hbx l k hb
      rw [q3 l k (by omega)]
      exact hE.rho l k k2
  refine ⟨packU us, results_run a3, ?_⟩
  obtain ⟨c1, c2, c3⟩ := leave_some h3
  obtain ⟨rv, rb, rM, rexp⟩ := r
  simp only at c1 c2 c3
  subst c1 c2
  rcases c3 with ⟨rfl, rfl, hok⟩ | ⟨k, c, cs, hv, hloc, hdat, rfl, rfl⟩
  · have hslot : ∀ (ρ' : Rho) lk, (∀ l k, l < st2.M.length → ρ' l k = ρ l k) → RSlot cx w F ρ' (retSt ⟨packRes vals, rb, st2.M, []⟩) lk (packRes vals) (packU us) fv ∧ (packRes vals).isRet = true := by
      intro ρ' lk hρ
      refine pack_slot hvals hok fun l k hl hb => ⟨hρ l k hl, ?_⟩
      have : l ≠ st2.M.length := by omega
      simpa [retSt, St.box, this] using hb
    obtain ⟨ρ', fp', q1, q2, q3⟩ := b1.leaveR (v := packRes vals) (u := packU us) (back := rb) (e := none) (exp := []) (.inl ⟨rfl, rfl⟩) (fun ρ' lk hρ _ => (hslot ρ' lk hρ).1)
    exact fin rfl q1 q2 q3 (hslot ρ (fun _ _ => none) (fun _ _ _ => rfl)).2 rfl
  · have hone : vals = [.bptr st2.M.length k c] := by
      match vals, hv with
      | [v], hv => simp only [packRes] at hv; rw [hv]
      | [], hv => simp [packRes] at hv
      | _ :: _ :: _, hv => simp [packRes] at hv
    subst hone
    obtain ⟨u, rfl, hx⟩ := cat_one hvals
    obtain ⟨hp, hfv⟩ : u = .pointer (some ⟨ρ st2.M.length k, c, none⟩) ∧ fv = [] := by
      rcases hx.1 with ⟨⟨hx, _⟩, h0⟩ | hx
      · exact ⟨hx, h0⟩
      · cases hx
    have hslot : ∀ (ρ' : Rho) lk, (∀ k0, some k = some k0 → ρ' st2.M.length 0 = ρ st2.M.length k0) → RSlot cx w F ρ' (retSt ⟨.bptr st2.M.length 0 c, rb, st2.M, [cs]⟩) lk (.bptr st2.M.length 0 c) u fv := by
      intro ρ' lk he
      refine .inl ⟨⟨?_, by simp [retSt, St.box]⟩, hfv⟩
      rw [he k rfl]; exact hp
    obtain ⟨ρ', fp', q1, q2, q3⟩ := b1.leaveR (v := .bptr st2.M.length 0 c) (u := u) (back := rb) (e := some k) (exp := [cs]) (.inr ⟨k, cs, rfl, hloc, hdat, rfl⟩) (fun ρ' lk _ he => hslot ρ' lk he)
    exact fin rfl q1 q2 q3 rfl (by simp [hdat])

end
end Go.Idl

/- Regions, sound. Conditions: none (definitions and lemmas). -/
namespace Go.Idl
open Go

/-- One operation with its destination and its guard. -/
def bIOp (cx : Cx) (ops : Array Oper) (n : Nat) (keep : List Nat) (o : Oper) (i : IOp) : Bool :=
  bOp cx o i.k && (match o.dst, i.dst with
    | none, none => true
    | some d, some e => d == e && decide (d < n) && !keep.contains d
    | _, _ => false) && (match o.guard, i.g with
    | none, none => true
    | some (j, b), some (s, c) => b == c && (match (ops[j]?).bind (·.dst) with
      | some t => t == s
      | none => false)
    | _, _ => false)

def clsOf (iops : List IOp) (i : Nat) : Cls := match iops[i]? with
  | some o => o.k.cls
  | none => .oth

/-- What holds between the steps of a body. -/
def Inv (cx : Cx) (w0 : World) (F0 : Nat → Prop) (ρ0 : Rho) (fp0 : Fp) (st0 : St) (a0 : Act) (keep : List Nat) (n : Nat) (st : St) (a : Act) (w : World) : Prop :=
  ∃ F ρ fp, Rel cx w F ρ fp [] st (regs a) ∧ Ext w0 F0 ρ0 fp0 [] (exB st0) w F ρ fp [] ∧ ShpLe st0 st ∧ n ≤ a.tmps.size ∧ a.defers = a0.defers ∧ ∀ s ∈ keep, regs a s = regs a0 s

section
variable {cx : Cx} {w0 : World} {F0 : Nat → Prop} {ρ0 : Rho} {fp0 : Fp} {st0 : St} {a0 : Act} {keep : List Nat} {n : Nat} {cf : CF} {ops : Array Oper} {iops : List IOp}
variable {w w1 : World} {F F1 : Nat → Prop} {ρ ρ1 : Rho} {fp fp1 : Fp} {st st' : St} {a : Act} {v : IV} {f' : List Nat}

def putI (st : St) (d : Option Nat) (v : IV) : St := match d with
  | some d => { st with T := tput st.T d v }
  | none => st

theorem regs_put {d : Nat} {v' : Value} (h : d < a.tmps.size) : regs (a.put (some d) v') = fun s => if s = d then v' else regs a s := by
  funext s
  simp only [regs, Act.put]
  by_cases hs : s = d
  · subst hs; simp [h]
  · have : d ≠ s := fun h => hs h.symm
    simp [Array.getD_eq_getD_getElem?, Array.getElem?_setIfInBounds_ne this, hs]

theorem put_size {d : Option Nat} {v' : Value} : (a.put d v').tmps.size = a.tmps.size := by
  cases d <;> simp [Act.put]
theorem put_defers' {d : Option Nat} {v' : Value} : (a.put d v').defers = a.defers := by
  cases d <;> rfl

/-- A value goes into its destination. -/
theorem inv_put {d : Option Nat} {v' : Value} (hR : Rel cx w F ρ fp (f' ++ []) st (regs a)) (hv : RSlot cx w F ρ st (look st (regs a) ρ w) v v' f') (hE : Ext w0 F0 ρ0 fp0 [] (exB st0) w F ρ fp (f' ++ [])) (hS : ShpLe st0 st)
    (hn : n ≤ a.tmps.size) (hd : a.defers = a0.defers) (hk : ∀ s ∈ keep, regs a s = regs a0 s) (hdn : ∀ e, d = some e → e < n ∧ e ∉ keep) : Inv cx w0 F0 ρ0 fp0 st0 a0 keep n (putI st d v) (a.put d v') w := by
  cases d with
  | none =>
    exact ⟨F, ρ, fp, hR.less (List.nil_sublist _), ⟨hE.size, hE.keep, hE.fpn, by simp, hE.Fm, hE.Fn, hE.rho, hE.env⟩, hS, hn, hd, hk⟩
  | some e =>
    obtain ⟨h1, h2⟩ := hdn e rfl
    have hlt : e < a.tmps.size := by omega
    have h3 := hR.put hv e
    rw [← regs_put hlt] at h3
    refine ⟨F, ρ, updFp fp (.S e) f', h3, ⟨hE.size, hE.keep, fun r b hb => ?_, by simp, hE.Fm, hE.Fn, hE.rho, hE.env⟩, ⟨hS.M, hS.loc⟩, by rw [put_size]; exact hn, by rw [put_defers']; exact hd, fun s hs => ?_⟩
    · unfold updFp at hb; split at hb
      · exact hE.xn b (by simp [hb])
      · exact hE.fpn r b hb
    · rw [regs_put hlt]
      have : s ≠ e := fun h => h2 (h ▸ hs)
      simp only [this, if_false]; exact hk s hs

theorem rslot_undef {lk} : RSlot cx w F ρ st lk (.tup []) undef [] := ⟨#[], rfl, .nil⟩

/-- Is the operation wanted? -/
theorem guard_ok {o : Oper} {i : IOp} (hR : Rel cx w F ρ fp [] st (regs a)) (hg : (match o.guard, i.g with
    | none, none => true
    | some (j, b), some (s, c) => b == c && (match (ops[j]?).bind (·.dst) with
      | some t => t == s
      | none => false)
    | _, _ => false) = true) {st' : St} (hev : execOp1 cf st i = some st') :
    (Region.wanted o (yielded ops a.tmps) = true ∧ ∃ v st1, ev cf st i.k = some (v, st1) ∧ st' = putI st1 i.dst v) ∨ (Region.wanted o (yielded ops a.tmps) = false ∧ st' = putI st i.dst (.tup [])) := by
  unfold execOp1 at hev
  split at hev
  · rename_i hi
    rw [hi] at hg
    have hog : o.guard = none := by
      cases h : o.guard with
      | none => rfl
      | some _ => rw [h] at hg; simp at hg
    refine .inl ⟨by simp [Region.wanted, hog], ?_⟩
    split at hev
    · rename_i v st1 he
      refine ⟨v, st1, he, ?_⟩
      unfold putI
      split at hev <;> simp_all
    · cases hev
  · rename_i s b hi
    rw [hi] at hg
    cases hog : o.guard with
    | none => rw [hog] at hg; simp at hg
    | some p =>
    obtain ⟨j, b'⟩ := p
    rw [hog] at hg
    simp only [Bool.and_eq_true, beq_iff_eq] at hg
    obtain ⟨hbb, hg⟩ := hg
    subst hbb
    split at hg
    rotate_left
    · cases hg
    rename_i t ht
    have hts : t = s := by simpa using hg
    subst hts
    have hy : ∀ x, regs a t = x → yielded ops a.tmps j = (match x with | .bool b => some b | _ => none) ∨ (∃ y, x = y ∧ ∀ b, y ≠ .bool b) := by
      intro x hx
      by_cases hb : ∃ b, x = .bool b
      · obtain ⟨b, rfl⟩ := hb
        left
        unfold yielded
        rw [ht]
        have : a.tmps[t]? = some (.bool b) := by
          simp only [regs, Array.getD_eq_getD_getElem?] at hx
          cases hq : a.tmps[t]? with
          | none => rw [hq] at hx; simp [undef] at hx
          | some y => rw [hq] at hx; simp at hx; rw [hx]
        simp [this]
      · right; exact ⟨x, rfl, fun b hh => hb ⟨b, hh⟩⟩
    have hyn : (∀ b, regs a t ≠ .bool b) → yielded ops a.tmps j = none := by
      intro hnb
      unfold yielded
      rw [ht]
      simp only [Option.bind_some]
      split
      · rename_i b hb
        exact absurd (by simp [regs, Array.getD_eq_getD_getElem?, hb]) (hnb b)
      · rfl
    have hs := hR.slots t
    split at hev
    · rename_i b1 hT
      rw [hT] at hs
      obtain ⟨hv, -, -⟩ := rslot_sc hs
      have hyy : yielded ops a.tmps j = some b1 := by
        rcases hy _ hv with h | ⟨y, h1, h2⟩
        · exact h
        · exact absurd h1.symm (h2 b1)
      split at hev
      · rename_i hbe
        refine .inl ⟨by simp [Region.wanted, hog, hyy, hbe], ?_⟩
        split at hev
        · rename_i v st1 he
          refine ⟨v, st1, he, ?_⟩
          unfold putI
          split at hev <;> simp_all
        · cases hev
      · rename_i hbe
        refine .inr ⟨by simp [Region.wanted, hog, hyy, hbe], ?_⟩
        unfold putI
        split at hev <;> simp_all
    · rename_i hT
      rw [hT] at hs
      obtain ⟨C, hC, hc⟩ := hs
      have hyy := hyn (fun b hb => by rw [hC] at hb; cases hb)
      refine .inr ⟨by simp [Region.wanted, hog, hyy], ?_⟩
      unfold putI
      split at hev <;> simp_all
    · cases hev

theorem dst_ok {o : Oper} {i : IOp} (h : (match o.dst, i.dst with
    | none, none => true
    | some d, some e => d == e && decide (d < n) && !keep.contains d
    | _, _ => false) = true) : o.dst = i.dst ∧ ∀ e, i.dst = some e → e < n ∧ e ∉ keep := by
  cases ho : o.dst with
  | none =>
    cases hi : i.dst with
    | none => exact ⟨rfl, by simp⟩
    | some e => rw [ho, hi] at h; cases h
  | some d =>
    cases hi : i.dst with
    | none => rw [ho, hi] at h; cases h
    | some e =>
      rw [ho, hi] at h
      simp only [Bool.and_eq_true, beq_iff_eq, decide_eq_true_eq, Bool.not_eq_true'] at h
      obtain ⟨⟨rfl, h2⟩, h3⟩ := h
      refine ⟨rfl, fun e he => ?_⟩
      cases he
      exact ⟨h2, by simpa using h3⟩

/-- Operations one by one, in whatever order they are listed. -/
theorem ops_Y (hcf : CallOK cx cf) (hck : ∀ (i : Nat) (o : Oper) (x : IOp), ops[i]? = some o → iops[i]? = some x → bIOp cx ops n keep o x = true) (hlen : iops.length ≤ ops.size) :
    ∀ {l : List Nat} {st : St} {a : Act} {w : World} {st' : St}, (∀ i ∈ l, i < iops.length) → Inv cx w0 F0 ρ0 fp0 st0 a0 keep n st a w → execOps cf st (inOrder iops l) = some st' → wpY cx.P ops (clsOf iops) (Inv cx w0 F0 ρ0 fp0 st0 a0 keep n st') l a w
  | [], st, a, w, st', _, hI, hev => by
    simp only [inOrder, List.filterMap_nil, execOps, Option.some.injEq] at hev
    subst hev; exact hI
  | i :: l, st, a, w, st', hl, hI, hev => by
    have hil := hl i (by simp)
    have hx : iops[i]? = some iops[i] := List.getElem?_eq_getElem hil
    have ho : ops[i]? = some (ops[i]'(by omega)) := Array.getElem?_eq_getElem _
    generalize iops[i] = x at hx
    generalize ops[i]'(by omega) = o at ho
    have hin : inOrder iops (i :: l) = x :: inOrder iops l := by simp [inOrder, hx]
    rw [hin] at hev
    simp only [execOps] at hev
    split at hev
    rotate_left
    · cases hev
    rename_i st1 h1
    have hc := hck i o x ho hx
    simp only [bIOp, Bool.and_eq_true] at hc
    obtain ⟨⟨hb, hd⟩, hg⟩ := hc
    obtain ⟨hde, hdn⟩ := dst_ok hd
    have hcls : clsOf iops i = x.k.cls := by simp [clsOf, hx]
    have rest : ∀ {a1 : Act} {w1 : World}, Inv cx w0 F0 ρ0 fp0 st0 a0 keep n st1 a1 w1 → wpY cx.P ops (clsOf iops) (Inv cx w0 F0 ρ0 fp0 st0 a0 keep n st') l a1 w1 := fun hI1 =>
      ops_Y hcf hck hlen (fun j hj => hl j (by simp [hj])) hI1 hev
    obtain ⟨F, ρ, fp, hR, hE, hS, hn, hdf, hk⟩ := hI
    refine ⟨o, ho, ?_⟩
    rw [hcls]
    rcases guard_ok hR hg h1 with ⟨hw, v, st2, he, rfl⟩ | ⟨hw, rfl⟩
    · have hres := op_res hcf hR hb he
      rw [← hde] at rest
      rw [← hde] at hdn
      cases hk2 : x.k.cls with
      | reg =>
        rw [hk2] at hres
        obtain ⟨rfl, v', hrun, hv⟩ := hres
        exact ⟨v', .inl ⟨hw, fun w' => hrun w' trivial⟩, rest (inv_put hR hv hE hS hn hdf hk hdn)⟩
      | ld =>
        rw [hk2] at hres
        obtain ⟨rfl, v', hrun, hv⟩ := hres
        exact ⟨v', .inl ⟨hw, hrun w (.refl w)⟩, rest (inv_put hR hv hE hS hn hdf hk hdn)⟩
      | oth =>
        rw [hk2] at hres
        simp only
        have ext : ∀ {w' F' ρ' fp' f'}, Ext w F ρ fp [] (exB st) w' F' ρ' fp' (f' ++ []) → Ext w0 F0 ρ0 fp0 [] (exB st0) w' F' ρ' fp' (f' ++ []) := fun h => hE.trans h fun l k hb => hS.box hb
        unfold wpOp
        simp only [ho, hw, if_true]
        left
        unfold Oper.wp
        rcases hres with ⟨v', w', F', ρ', fp', f', hy, hR', hv, hE', hS'⟩ | ⟨g, args, hrun, hcalls⟩
        · have hI1 := rest (inv_put hR' hv (ext hE') (hS.trans hS') hn hdf hk hdn)
          rcases hy with hy | ⟨hy, rfl⟩
          · rw [hy]; exact hI1
          · rw [hy]; exact hI1
        · rw [hrun]
          simp only [Oper.upon]
          refine hcalls.mono ?_
          rintro e w' ⟨v', F', ρ', fp', f', rfl, hR', hv, hE', hS'⟩
          exact rest (inv_put hR' hv (ext hE') (hS.trans hS') hn hdf hk hdn)
    · rw [← hde] at rest
      rw [← hde] at hdn
      have hI1 := rest (inv_put (f' := []) (by simpa using hR) rslot_undef (by simpa using hE) hS hn hdf hk hdn)
      cases hk2 : x.k.cls with
      | reg => exact ⟨undef, .inr ⟨hw, rfl⟩, hI1⟩
      | ld => exact ⟨undef, .inr ⟨hw, rfl⟩, hI1⟩
      | oth =>
        simp only
        unfold wpOp
        simp only [ho, hw, Bool.false_eq_true, if_false]
        exact hI1

end
end Go.Idl

/- Code and calls, sound. Conditions: none (definitions and lemmas). -/
namespace Go.Idl
open Go

def bOps (cx : Cx) (ops : Array Oper) (n : Nat) (keep : List Nat) : List Oper → List IOp → Bool
  | [], [] => true
  | o :: os, x :: xs => bIOp cx ops n keep o x && bOps cx ops n keep os xs
  | _, _ => false

/-- A region whose last operation compares a slice with nil. -/
def bNil (cx : Cx) (n : Nat) (keep : List Nat) : Code → List IOp → Opd → Nat → Bool
  | .region _ ops false, iops, x, t => bOps cx ops n keep (ops.toList.take iops.length) iops && ops.size == iops.length + 1 && (match ops[iops.length]? with
    | some o => o.guard.isNone && (match o.dst with | some d => d == t | none => false) && decide (t < n) && !keep.contains t && (match o.op with
      | .binOp .eql T a (.const v) _ => vEq v (.slice none 0 0) && isSliceOf cx.P T (fun _ => true) && bOpd cx a x
      | _ => false)
    | none => false)
  | _, _, _, _ => false

/-- Code of the model and its ideal twin. -/
def bCodeI (cx : Cx) (n : Nat) (keep : List Nat) : IC → Code → Bool
  | i, .scope c => bCodeI cx n keep i c
  | .skip, .skip => true
  | .skip, .label _ => true
  | .reg iops _ alts, .region _ ops draw => bOps cx ops n keep ops.toList iops && (!draw || drawB ops (clsOf iops) alts)
  | .seq x y, .seq a b => bCodeI cx n keep x a && bCodeI cx n keep y b
  | .nilc iops x t _ y, .seq a b => bNil cx n keep a iops x t && bCodeI cx n keep y b
  | .nilc2 iops x t _ y1 y2, .seq (.seq a1 a2) b => bNil cx n keep a1 iops x t && bCodeI cx n keep y1 a2 && bCodeI cx n keep y2 b
  | .cond d x y, .cond c a b => bOpd cx c d && bCodeI cx n keep x a && bCodeI cx n keep y b
  | .block id' b', .block id b => id == id' && bCodeI cx n keep b' b
  | .loop b', .loop b => bCodeI cx n keep b' b
  | .exit id', .exit id => id == id'
  | .ret, .ret => true
  | _, _ => false
abbrev bCode (cx : Cx) (n : Nat) (keep : List Nat) (c : Code) (i : IC) : Bool := bCodeI cx n keep i c

def exOf : Ex → Exit
  | .normal => .normal
  | .exit id => .exit id
  | .ret => .ret

section
variable {cx : Cx} {w0 : World} {F0 : Nat → Prop} {ρ0 : Rho} {fp0 : Fp} {st0 : St} {a0 : Act} {keep : List Nat} {n : Nat} {cf : CF}
variable {w : World} {st st' : St} {a : Act}

def PostI (cx : Cx) (w0 : World) (F0 : Nat → Prop) (ρ0 : Rho) (fp0 : Fp) (st0 : St) (a0 : Act) (keep : List Nat) (n : Nat) (ex : Ex) (st' : St) : Exit → Act → World → Prop :=
  fun e a w => e = exOf ex ∧ Inv cx w0 F0 ρ0 fp0 st0 a0 keep n st' a w

theorem bOps_spec {ops : Array Oper} : ∀ {os : List Oper} {xs : List IOp}, bOps cx ops n keep os xs = true → os.length = xs.length ∧ ∀ (i : Nat) (o : Oper) (x : IOp), os[i]? = some o → xs[i]? = some x → bIOp cx ops n keep o x = true
  | [], [], _ => ⟨rfl, by simp⟩
  | o :: os, x :: xs, h => by
    simp only [bOps, Bool.and_eq_true] at h
    obtain ⟨h1, h2⟩ := bOps_spec h.2
    refine ⟨by simp [h1], fun i o' x' ho hx => ?_⟩
    cases i with
    | zero => simp at ho hx; subst ho hx; exact h.1
    | succ i => exact h2 i o' x' (by simpa using ho) (by simpa using hx)
  | [], _ :: _, h => by cases h
  | _ :: _, [], h => by cases h

theorem inOrder_range (l : List IOp) : inOrder l (List.range l.length) = l := by
  unfold inOrder
  induction l with
  | nil => rfl
  | cons x l ih =>
    rw [List.length_cons, List.range_succ_eq_map, List.filterMap_cons]
    simp only [List.getElem?_cons_zero, List.filterMap_map]
    congr 1

theorem inv_drawn (h : Inv cx w0 F0 ρ0 fp0 st0 a0 keep n st a w) (k : Nat) : Inv cx w0 F0 ρ0 fp0 st0 a0 keep n st a { w with drawn := k } := by
  obtain ⟨F, ρ, fp, hR, hE, h1⟩ := h
  obtain ⟨hR', -⟩ := hR.grow (w' := { w with drawn := k }) (fun _ _ _ => rfl) (Nat.le_refl _) (Y := []) .nil (by simp)
  exact ⟨F, ρ, fp, by simpa using hR', ⟨hE.size, hE.keep, hE.fpn, hE.xn, hE.Fm, hE.Fn, hE.rho, hE.env⟩, h1⟩

theorem inv_cut (h : Inv cx w0 F0 ρ0 fp0 st0 a0 keep n st a w) (live : List Nat) : Inv cx w0 F0 ρ0 fp0 st0 a0 keep n (st.cut live) a w := by
  obtain ⟨F, ρ, fp, hR, hE, hS, h1⟩ := h
  obtain ⟨fp', k1, k2, k3⟩ := hR.restrict live
  exact ⟨F, ρ, fp', k3, ⟨hE.size, hE.keep, fun r b hb => hE.fpn r b (k1 r b hb), hE.xn, hE.Fm, hE.Fn, hE.rho, hE.env⟩, ⟨hS.M, hS.loc⟩, h1⟩

theorem eval_bool (h : Inv cx w0 F0 ρ0 fp0 st0 a0 keep n st a w) {c : Operand} {d : Opd} (hc : okOpd cx c d) {t : Bool} (ht : rd st.T d = .sc (.bool t)) : a.eval c = .bool t := by
  obtain ⟨F, ρ, fp, hR, -⟩ := h
  have := rd_rel hR hc
  rw [ht] at this
  exact (rslot_sc this).1

theorem wpY_app {P : Program} {ops : Array Oper} {cls : Nat → Cls} {K K2 : Act → World → Prop} {l l2 : List Nat} (hK : ∀ a w, K2 a w → wpY P ops cls K l2 a w) : ∀ {a : Act} {w : World}, wpY P ops cls K2 l a w → wpY P ops cls K (l ++ l2) a w := by
  induction l with
  | nil => intro a w h; exact hK a w h
  | cons i l ih =>
    intro a w h
    obtain ⟨o, ho, h⟩ := h
    refine ⟨o, ho, ?_⟩
    split at h
    · obtain ⟨v, hy, h⟩ := h; exact ⟨v, hy, ih h⟩
    · obtain ⟨v, hy, h⟩ := h; exact ⟨v, hy, ih h⟩
    · exact wpOp_mono (fun _ _ => ih) h

theorem empty_real {x : IV} {v : Value} {b : Bool} {F : Nat → Prop} {ρ : Rho} {fp : Fp} {X : List Nat} (hR : Rel cx w F ρ fp X st (regs a)) (h : RSlot cx w F ρ st (look st (regs a) ρ w) x v []) (hb : emptyL x = some b) :
    ∃ ad len cap, v = .slice ad len cap ∧ (b = false → ad.isSome = true) := by
  unfold emptyL at hb
  split at hb
  · rename_i e es c
    simp only [Option.some.injEq] at hb
    have hd : RDs w F [.lst e es c] [v] [] := by
      rcases h with ⟨h, _⟩ | h
      · exact h.elim
      · exact h
    obtain ⟨-, h1⟩ := hd.lst_inv
    rcases h1 with ⟨rfl, ad, cap, rfl, -⟩ | ⟨b1, o, cap, C, ty, fr, rfl, _⟩
    · exact ⟨ad, 0, cap, rfl, fun hf => by subst hb; simp at hf⟩
    · exact ⟨_, _, _, rfl, fun _ => rfl⟩
  · rename_i r c p e off n cl
    simp only [Option.some.injEq] at hb
    rcases h with ⟨⟨x0, v0, es, A0, N, cap0, A, cap, k1, k2, k3, hA, k5, k6, k7, k8⟩, _⟩ | h
    · refine ⟨A, n, cap, hA, fun hf => ?_⟩
      subst hb
      have hn : 0 < n := by
        rcases Nat.eq_zero_or_pos n with h | h
        · subst h; simp at hf
        · exact h
      obtain ⟨b, o1, -, rfl⟩ := k8.1 (by omega)
      rfl
    · cases h
  · cases hb

theorem run_eqnil' {P : Program} {T e : TypeId} (hT : P.underlying T = some (.slice e)) {ad : Option Addr} {len cap : Nat} (w : World) (d : Nat) : (Op.equalIn (d + 1) T (.slice ad len cap) (.slice none 0 0)).run P w = .ok ad.isNone w := by
  cases ad <;> simp [Op.equalIn, run_underlying hT]
theorem run_eqnil {P : Program} {T e : TypeId} (hT : P.underlying T = some (.slice e)) {ad : Option Addr} {len cap : Nat} (w : World) : (Op.equal T (.slice ad len cap) (.slice none 0 0)).run P w = .ok ad.isNone w :=
  run_eqnil' hT w 9999

theorem nilc_sound (hcf : CallOK cx cf) {x : Code} {G : Act → World → Prop} {Q : Exit → Act → World → Prop} {iops : List IOp} {e : Opd} {t : Nat} {live : List Nat} {f : St → Option (Ex × St)} {ex : Ex} (hb : bNil cx n keep x iops e t = true) (hev : nilStep (execOps cf st iops) e t live f = some (ex, st'))
    (hI : Inv cx w0 F0 ρ0 fp0 st0 a0 keep n st a w) (hy : ∀ {st : St} {a : Act} {w : World}, f st = some (ex, st') → Inv cx w0 F0 ρ0 fp0 st0 a0 keep n st a w → G a w) :
    x.wp cx.P (Exit.then G Q) a w := by
  obtain ⟨id, ops, rfl⟩ : ∃ id ops, x = .region id ops false := by
    unfold bNil at hb
    split at hb
    · exact ⟨_, _, rfl⟩
    · cases hb
  simp only [bNil, Bool.and_eq_true, beq_iff_eq] at hb
  obtain ⟨⟨hops, hsz⟩, hb⟩ := hb
  split at hb
  rotate_left
  · cases hb
  rename_i o ho
  simp only [Bool.and_eq_true, decide_eq_true_eq, Bool.not_eq_true', Option.isNone_iff_eq_none] at hb
  obtain ⟨⟨⟨⟨hg, hd⟩, htn⟩, htk⟩, hop⟩ := hb
  split at hd
  rotate_left
  · cases hd
  rename_i d hdst
  have hdt : d = t := eq_of_beq hd
  subst hdt
  split at hop
  rotate_left
  · cases hop
  rename_i T xo v yt hopk
  simp only [Bool.and_eq_true] at hop
  obtain ⟨⟨hv, hT⟩, hx⟩ := hop
  have hv' := vEq_eq hv
  subst hv'
  obtain ⟨el, hel, -⟩ := isSliceOf_ok hT
  obtain ⟨hlen, hck⟩ := bOps_spec hops
  have hck' : ∀ (i : Nat) (o : Oper) (x : IOp), ops[i]? = some o → iops[i]? = some x → bIOp cx ops n keep o x = true := fun i o x ho hx => by
    have hi : i < iops.length := (List.getElem?_eq_some_iff.1 hx).1
    exact hck i o x (by rw [List.getElem?_take_of_lt hi]; simpa using ho) hx
  unfold nilStep at hev
  split at hev
  rotate_left
  · cases hev
  rename_i st1 h1
  -- both ways
  obtain ⟨b, hbe, hboth⟩ : ∃ b, emptyL (rd st1.T e) = some b ∧ ∀ b0, (b = false → b0 = false) → f (st1.flag d b0 live) = some (ex, st') := by
    split at hev
    · rename_i he
      exact ⟨false, he, fun b0 h0 => by rw [h0 rfl]; exact hev⟩
    · rename_i he
      refine ⟨true, he, fun b0 _ => ?_⟩
      split at hev
      rotate_left
      · cases hev
      rename_i r r' hr hr'
      split at hev
      rotate_left
      · cases hev
      rename_i hrr
      simp only [Option.some.injEq] at hev
      subst hrr
      cases b0
      · rw [hr', hev]
      · rw [hr, hev]
    · cases hev
  refine wp_fixed (cls := clsOf iops) (K := G) (fun a w h => h) ?_
  rw [hsz, List.range_succ]
  refine wpY_app (K2 := Inv cx w0 F0 ρ0 fp0 st0 a0 keep n st1) (fun a1 w1 hI1 => ?_) (ops_Y hcf hck' (by omega) (fun i hi => List.mem_range.1 hi) hI (by rw [inOrder_range]; exact h1))
  refine ⟨o, ho, ?_⟩
  have hcls : clsOf iops iops.length = .oth := by simp [clsOf]
  rw [hcls]
  simp only
  have hI1' := hI1
  obtain ⟨F, ρ, fp, hR, hE, hS, hn, hdf, hk⟩ := hI1
  obtain ⟨ad, len, cap, hval, had⟩ := empty_real hR (rd_rel hR (bOpd_ok hx)) hbe
  have hw : Region.wanted o (yielded ops a1.tmps) = true := by simp [Region.wanted, hg]
  have hrun : (execOp a1.eval o).run cx.P w1 = .ok (.value (.bool ad.isNone)) w1 := by
    have he : a1.eval (.const (.slice none 0 0)) = .slice none 0 0 := rfl
    simp [execOp, hopk, hval, he, eqGuard, binOp, run_eqnil hel]
  unfold wpOp
  simp only [ho, hw, if_true]
  left
  unfold Oper.wp
  rw [hrun, Oper.upon_value, hdst]
  simp only [wpY]
  have hb0 : b = false → ad.isNone = false := fun h => by
    have := had h
    cases ad <;> simp_all
  refine hy (hboth ad.isNone hb0) ?_
  have := inv_put (cx := cx) (w0 := w0) (F0 := F0) (ρ0 := ρ0) (fp0 := fp0) (st0 := st0) (a0 := a0) (keep := keep) (n := n) (d := some d) (f' := []) (v' := .bool ad.isNone) (v := .sc (.bool ad.isNone)) (by simpa using hR) (sc_rslot rfl) (by simpa using hE) hS hn hdf hk
    (fun e he => by cases he; exact ⟨htn, by simpa using htk⟩)
  exact inv_cut this live

theorem exec_sound_aux (hcf : CallOK cx cf) (hm : cx.P.follows .mixedOrders = true) : ∀ (N : Nat) (c : Code), SizeOf.sizeOf c < N → ∀ {i : IC}, bCode cx n keep c i = true → ∀ {fuel : Nat} {st : St} {ex : Ex} {st' : St} {a : Act} {w : World},
    exec cf fuel i st = some (ex, st') → Inv cx w0 F0 ρ0 fp0 st0 a0 keep n st a w → c.wp cx.P (PostI cx w0 F0 ρ0 fp0 st0 a0 keep n ex st') a w := by
  intro N
  induction N with
  | zero => intro c hN; omega
  | succ N ihN =>
  intro c hN
  cases c with
  | skip =>
    intro i hb fuel st ex st' a w hev hI
    cases i <;> simp only [bCode, bCodeI] at hb <;> try (cases hb; done)
    simp only [exec, Option.some.injEq, Prod.mk.injEq] at hev
    obtain ⟨rfl, rfl⟩ := hev
    exact wp_skip ⟨rfl, hI⟩
  | label l =>
    intro i hb fuel st ex st' a w hev hI
    cases i <;> simp only [bCode, bCodeI] at hb <;> try (cases hb; done)
    simp only [exec, Option.some.injEq, Prod.mk.injEq] at hev
    obtain ⟨rfl, rfl⟩ := hev
    exact wp_label ⟨rfl, hI⟩
  | scope c =>
    have ih := fun {i : IC} => ihN c (by simp at hN; omega) (i := i)
    intro i hb fuel st ex st' a w hev hI
    have hb' : bCode cx n keep c i = true := by
      cases i <;> simpa only [bCode, bCodeI] using hb
    refine wp_scope_straight (wp_mono (ih hb' hev hI) ?_)
    rintro e a w ⟨rfl, h⟩
    cases ex <;> exact ⟨rfl, h⟩
  | region id ops draw =>
    intro i hb fuel st ex st' a w hev hI
    cases i <;> simp only [bCode, bCodeI] at hb <;> try (cases hb; done)
    rename_i iops live alts
    simp only [Bool.and_eq_true, Bool.or_eq_true, Bool.not_eq_true'] at hb
    obtain ⟨hops, hdr⟩ := hb
    obtain ⟨hlen, hck⟩ := bOps_spec hops
    have hlen' : ops.size = iops.length := by simpa using hlen
    have hck' : ∀ (i : Nat) (o : Oper) (x : IOp), ops[i]? = some o → iops[i]? = some x → bIOp cx ops n keep o x = true := fun i o x ho hx => hck i o x (by simpa using ho) hx
    simp only [exec] at hev
    split at hev
    rotate_left
    · cases hev
    rename_i st1 hreg
    simp only [Option.some.injEq, Prod.mk.injEq] at hev
    obtain ⟨rfl, rfl⟩ := hev
    unfold execReg at hreg
    split at hreg
    rotate_left
    · cases hreg
    rename_i st2 hmain
    split at hreg
    rotate_left
    · cases hreg
    rename_i halts
    simp only [Option.some.injEq] at hreg
    subst hreg
    have run : ∀ (τ : List Nat) (w1 : World), Inv cx w0 F0 ρ0 fp0 st0 a0 keep n st a w1 → τ ∈ List.range ops.size :: alts → (∀ i ∈ τ, i < ops.size) → wpY cx.P ops (clsOf iops) (Inv cx w0 F0 ρ0 fp0 st0 a0 keep n (st2.cut live)) τ a w1 := by
      intro τ w1 hI1 hτ hlt
      rcases List.mem_cons.1 hτ with rfl | hτ
      · have := ops_Y (l := List.range ops.size) hcf hck' (by omega) (fun i hi => by rw [← hlen']; exact hlt i hi) hI1 (st' := st2) (by rw [hlen', inOrder_range]; exact hmain)
        exact wpY_mono (fun a w h => inv_cut h live) this
      · obtain ⟨st3, h3, h4⟩ := halts τ hτ
        have := ops_Y (l := τ) hcf hck' (by omega) (fun i hi => by rw [← hlen']; exact hlt i hi) hI1 h3
        exact wpY_mono (fun a w h => by rw [← h4]; exact inv_cut h live) this
    cases draw with
    | false =>
      exact wp_fixed (fun a w h => ⟨rfl, h⟩) (run (List.range ops.size) w hI (by simp) (fun i hi => List.mem_range.1 hi))
    | true =>
      have hdr' : drawB ops (clsOf iops) alts = true := by
        rcases hdr with h | h
        · cases h
        · exact h
      refine wp_drawn hm hdr' (fun a w h => ⟨rfl, h⟩) fun τ hτ => run τ _ (inv_drawn hI _) hτ fun i hi => ?_
      rcases List.mem_cons.1 hτ with rfl | hτ
      · exact List.mem_range.1 hi
      · unfold drawB at hdr'
        simp only [Bool.and_eq_true] at hdr'
        have hp := List.all_eq_true.1 hdr'.1.1.2 τ hτ
        exact List.mem_range.1 ((permB_spec hp).subset hi)
  | seq x y =>
    have ihx := fun {i : IC} => ihN x (by simp at hN; omega) (i := i)
    have ihy := fun {i : IC} => ihN y (by simp at hN; omega) (i := i)
    intro i hb fuel st ex st' a w hev hI
    cases i <;> simp only [bCode, bCodeI] at hb <;> try (cases hb; done)
    rotate_left
    · rename_i iops e t live y'
      simp only [Bool.and_eq_true] at hb
      simp only [exec] at hev
      exact wp_seq (nilc_sound hcf hb.1 hev hI fun {st a w} hev hI => ihy hb.2 hev hI)
    · rename_i iops e t live y1 y2
      cases x <;> simp only [bCode, bCodeI] at hb <;> try (cases hb; done)
      rename_i x1 x2
      simp only [Bool.and_eq_true] at hb
      have ih2 := fun {i : IC} => ihN x2 (by simp at hN; omega) (i := i)
      simp only [exec] at hev
      refine wp_seq (wp_seq (nilc_sound hcf hb.1.1 hev hI fun {st a w} hev hI => ?_))
      unfold seqX at hev
      cases h1 : exec cf fuel y1 st with
      | none => simp [h1] at hev
      | some p =>
      obtain ⟨ex1, st1⟩ := p
      simp only [h1] at hev
      refine wp_mono (ih2 hb.1.2 h1 hI) ?_
      rintro e a1 w1 ⟨rfl, hI1⟩
      cases ex1 with
      | normal => exact ihy hb.2 hev hI1
      | exit id => simp only [Option.some.injEq, Prod.mk.injEq] at hev; obtain ⟨rfl, rfl⟩ := hev; exact ⟨rfl, hI1⟩
      | ret => simp only [Option.some.injEq, Prod.mk.injEq] at hev; obtain ⟨rfl, rfl⟩ := hev; exact ⟨rfl, hI1⟩
    rename_i x' y'
    simp only [Bool.and_eq_true] at hb
    simp only [exec] at hev
    cases h1 : exec cf fuel x' st with
    | none => simp [h1] at hev
    | some p =>
    obtain ⟨ex1, st1⟩ := p
    simp only [h1] at hev
    refine wp_seq (wp_mono (ihx hb.1 h1 hI) ?_)
    rintro e a1 w1 ⟨rfl, hI1⟩
    cases ex1 with
    | normal => exact ihy hb.2 hev hI1
    | exit id => simp only [Option.some.injEq, Prod.mk.injEq] at hev; obtain ⟨rfl, rfl⟩ := hev; exact ⟨rfl, hI1⟩
    | ret => simp only [Option.some.injEq, Prod.mk.injEq] at hev; obtain ⟨rfl, rfl⟩ := hev; exact ⟨rfl, hI1⟩
  | cond c x y =>
    have ihx := fun {i : IC} => ihN x (by simp at hN; omega) (i := i)
    have ihy := fun {i : IC} => ihN y (by simp at hN; omega) (i := i)
    intro i hb fuel st ex st' a w hev hI
    cases i <;> simp only [bCode, bCodeI] at hb <;> try (cases hb; done)
    rename_i d x' y'
    simp only [Bool.and_eq_true] at hb
    simp only [exec] at hev
    split at hev
    rotate_left
    · cases hev
    rename_i t ht
    have hc := eval_bool hI (bOpd_ok hb.1.1) ht
    refine wp_cond_split hc (fun h => ?_) (fun h => ?_)
    · subst h; simp only [if_true] at hev; exact ihx hb.1.2 hev hI
    · subst h; simp only [Bool.false_eq_true, if_false] at hev; exact ihy hb.2 hev hI
  | block id b =>
    have ih := fun {i : IC} => ihN b (by simp at hN; omega) (i := i)
    intro i hb fuel st ex st' a w hev hI
    cases i <;> simp only [bCode, bCodeI] at hb <;> try (cases hb; done)
    rename_i id' b'
    simp only [Bool.and_eq_true, beq_iff_eq] at hb
    obtain ⟨rfl, hb⟩ := hb
    simp only [exec] at hev
    cases h1 : exec cf fuel b' st with
    | none => simp [h1] at hev
    | some p =>
    obtain ⟨ex1, st1⟩ := p
    simp only [h1] at hev
    refine wp_block (wp_mono (ih hb h1 hI) ?_)
    rintro e a1 w1 ⟨rfl, hI1⟩
    cases ex1 with
    | normal => simp only [Option.some.injEq, Prod.mk.injEq] at hev; obtain ⟨rfl, rfl⟩ := hev; exact ⟨rfl, hI1⟩
    | ret => simp only [Option.some.injEq, Prod.mk.injEq] at hev; obtain ⟨rfl, rfl⟩ := hev; exact ⟨rfl, hI1⟩
    | exit j =>
      simp only at hev
      simp only [exOf, Exit.inBlock]
      split at hev
      · rename_i hj
        simp only [Option.some.injEq, Prod.mk.injEq] at hev; obtain ⟨rfl, rfl⟩ := hev
        simp only [hj, if_true]; exact ⟨rfl, hI1⟩
      · rename_i hj
        simp only [Option.some.injEq, Prod.mk.injEq] at hev; obtain ⟨rfl, rfl⟩ := hev
        simp only [hj, if_false]; exact ⟨rfl, hI1⟩
  | loop b =>
    have ih := fun {i : IC} => ihN b (by simp at hN; omega) (i := i)
    intro i hb fuel st ex st' a w hev hI
    cases i <;> simp only [bCode, bCodeI] at hb <;> try (cases hb; done)
    rename_i b'
    simp only [exec] at hev
    have key : ∀ (m : Nat) (st : St) (a : Act) (w : World), iter (exec cf fuel b') m st = some (ex, st') → Inv cx w0 F0 ρ0 fp0 st0 a0 keep n st a w → Code.rounds cx.P b (PostI cx w0 F0 ρ0 fp0 st0 a0 keep n ex st') m a w := by
      intro m
      induction m with
      | zero => intro st a w h; simp [iter] at h
      | succ m ihm =>
        intro st a w h hI
        rw [rounds_succ]
        simp only [iter] at h
        cases h1 : exec cf fuel b' st with
        | none => simp [h1] at h
        | some p =>
        obtain ⟨ex1, st1⟩ := p
        simp only [h1] at h
        refine wp_mono (ih hb h1 hI) ?_
        rintro e a1 w1 ⟨rfl, hI1⟩
        cases ex1 with
        | normal => exact ihm st1 a1 w1 h hI1
        | exit j => simp only [Option.some.injEq, Prod.mk.injEq] at h; obtain ⟨rfl, rfl⟩ := h; exact ⟨rfl, hI1⟩
        | ret => simp only [Option.some.injEq, Prod.mk.injEq] at h; obtain ⟨rfl, rfl⟩ := h; exact ⟨rfl, hI1⟩
    exact wp_loop_rounds fuel (key fuel st a w hev hI)
  | exit id =>
    intro i hb fuel st ex st' a w hev hI
    cases i <;> simp only [bCode, bCodeI] at hb <;> try (cases hb; done)
    simp only [beq_iff_eq] at hb
    subst hb
    simp only [exec, Option.some.injEq, Prod.mk.injEq] at hev
    obtain ⟨rfl, rfl⟩ := hev
    exact wp_exit ⟨rfl, hI⟩
  | ret =>
    intro i hb fuel st ex st' a w hev hI
    cases i <;> simp only [bCode, bCodeI] at hb <;> try (cases hb; done)
    simp only [exec, Option.some.injEq, Prod.mk.injEq] at hev
    obtain ⟨rfl, rfl⟩ := hev
    exact wp_ret ⟨rfl, hI⟩
  | rangeFunc f ps x y =>
    intro i hb
    cases i <;> simp [bCode, bCodeI] at hb
  | goto l =>
    intro i hb
    cases i <;> simp [bCode, bCodeI] at hb
  | refuse s =>
    intro i hb
    cases i <;> simp [bCode, bCodeI] at hb

theorem exec_sound (hcf : CallOK cx cf) (hm : cx.P.follows .mixedOrders = true) {c : Code} {i : IC} (hb : bCode cx n keep c i = true) {fuel : Nat} {st : St} {ex : Ex} {st' : St} {a : Act} {w : World}
    (hev : exec cf fuel i st = some (ex, st')) (hI : Inv cx w0 F0 ρ0 fp0 st0 a0 keep n st a w) : c.wp cx.P (PostI cx w0 F0 ρ0 fp0 st0 a0 keep n ex st') a w :=
  exec_sound_aux hcf hm (SizeOf.sizeOf c + 1) c (Nat.lt_succ_self _) hb hev hI

end

def bRes (P : Program) : ResultVar → RVar → Bool
  | .tmp t, .t s => t == s
  | .cell a t, .c b sz ag => a == b && bSize P t sz && bAgg P t ag
  | _, _ => false
def bRess (P : Program) : List ResultVar → List RVar → Bool
  | [], [] => true
  | x :: xs, y :: ys => bRes P x y && bRess P xs ys
  | _, _ => false
theorem bRess_ok {P : Program} : ∀ {xs : List ResultVar} {ys : List RVar}, bRess P xs ys = true → okRess P xs ys
  | [], [], _ => trivial
  | x :: xs, y :: ys, h => by
    simp only [bRess, Bool.and_eq_true] at h
    refine ⟨?_, bRess_ok h.2⟩
    cases x <;> cases y <;> simp only [bRes] at h
    · simpa [okRes] using h.1
    · exact absurd h.1 (by simp)
    · exact absurd h.1 (by simp)
    · simp only [Bool.and_eq_true, beq_iff_eq] at h
      exact ⟨h.1.1.1, bSize_ok h.1.1.2, bAgg_ok h.1.2⟩
  | [], _ :: _, h => by cases h
  | _ :: _, [], h => by cases h

/-- A function of the model and its ideal twin. -/
def bFun (cx : Cx) (rf : Func) (f : IFun) : Bool := (rf.name != "runtime.NumGoroutine") && bRess cx.P rf.results.toList f.res && (match rf.body with
  | some c => bCode cx rf.ntmps f.keep c f.body
  | none => false)

/-- The table's functions are those of the program. -/
def TblOK (cx : Cx) (tb : Tbl) : Prop := ∀ f fn, tb f = some fn → ∃ rf, cx.P.funcs[cx.fid f]? = some rf ∧ bFun cx rf fn = true

theorem regs_args (vs : List Value) (k : Nat) : regs { tmps := vs.toArray ++ Array.replicate k undef, defers := [] } = argTm vs := by
  funext s
  simp only [regs, argTm, Array.getD_eq_getD_getElem?, List.getD_eq_getElem?_getD]
  by_cases hs : s < vs.length
  · rw [Array.getElem?_append_left (by simpa using hs)]; simp
  · rw [Array.getElem?_append_right (by simpa using hs), List.getElem?_eq_none (by omega)]
    by_cases h2 : s - vs.length < k
    · simp [h2]
    · simp [h2]

theorem callN_sound {cx : Cx} {tb : Tbl} (htb : TblOK cx tb) (hm : cx.P.follows .mixedOrders = true) : ∀ n, CallOK cx (callN tb n)
  | 0 => fun f lent args M r h => by simp [callN] at h
  | n + 1 => fun f lent args M r h => by
    have ih := callN_sound htb hm n
    simp only [callN] at h
    split at h
    rotate_left
    · cases h
    rename_i fn hfn
    obtain ⟨rf, hrf, hb⟩ := htb f fn hfn
    unfold bFun at hb
    simp only [Bool.and_eq_true, bne_iff_ne, ne_eq] at hb
    obtain ⟨⟨hname, hress⟩, hb⟩ := hb
    split at hb
    rotate_left
    · cases hb
    rename_i c hc
    refine ⟨⟨rf, hrf, by simpa using hname, by rw [hc]; rfl⟩, ?_⟩
    intro w F ρ fp vs hlen hR
    unfold runFun at h
    split at h
    · cases h
    rename_i hkeep
    have hkeep' : ∀ s ∈ lent, s ∈ fn.keep := by
      simp only [Bool.not_eq_true', Bool.not_eq_false, List.all_eq_true] at hkeep
      intro s hs
      simpa using hkeep s hs
    let a0 : Act := { tmps := vs.toArray ++ Array.replicate (rf.ntmps - vs.toArray.size) undef, defers := [] }
    have hregs : regs a0 = argTm vs := regs_args vs _
    have hI : Inv cx w F ρ fp (argSt args M) a0 fn.keep rf.ntmps (argSt args M) a0 w :=
      ⟨F, ρ, fp, by rw [hregs]; exact hR, Ext.refl _ _ _ _ _ _, .refl _, by simp [a0]; omega, rfl, fun _ _ => rfl⟩
    have body : ∀ {ex : Ex} {st1 : St}, exec (callN tb n) n fn.body (argSt args M) = some (ex, st1) → (ex = .normal ∨ ex = .ret) → ∀ {vals st2 back st3}, st1.retvs fn.res = some (vals, st2) → st2.backs lent = some (back, st3) →
        st3.leave (packRes vals) back = some r → Calls cx.P (cx.fid f) vs.toArray w (RetPost cx w F ρ fp M lent vs r) := by
      intro ex st1 h1 hex vals st2 back st3 h2 h3 h4
      refine calls_of_wp hrf hc ?_
      refine wp_mono (exec_sound ih hm hb h1 hI) ?_
      rintro e a1 w1 ⟨rfl, F1, ρ1, fp1, hR1, hE1, hS1, -, hd1, hk1⟩
      obtain ⟨u, q1, q2⟩ := leave_ok rfl hR1 hE1 hS1 (bRess_ok hress) (fun s hs => by rw [hk1 s (hkeep' s hs), hregs]; rfl) h2 h3 h4
      rcases hex with rfl | rfl
      · exact ⟨hd1, u, q1, q2⟩
      · exact ⟨hd1, u, q1, q2⟩
    change (match exec (callN tb n) n fn.body (argSt args M) with
      | some (.exit _, _) => none
      | some (_, st) => _
      | none => none) = some r at h
    cases h1 : exec (callN tb n) n fn.body (argSt args M) with
    | none => simp [h1] at h
    | some p =>
    obtain ⟨ex, st1⟩ := p
    have rest : (match st1.retvs fn.res with
        | some (vs, st) => match st.backs lent with
          | some (back, st) => st.leave (packRes vs) back
          | none => none
        | none => none) = some r → (ex = .normal ∨ ex = .ret) → Calls cx.P (cx.fid f) vs.toArray w (RetPost cx w F ρ fp M lent vs r) := by
      intro h hex
      split at h
      rotate_left
      · cases h
      rename_i vals st2 h2
      split at h
      rotate_left
      · cases h
      rename_i back st3 h3
      exact body h1 hex h2 h3 h
    rw [h1] at h
    cases ex with
    | exit j => simp at h
    | normal => exact rest h (.inl rfl)
    | ret => exact rest h (.inr rfl)

end Go.Idl

/- From an ideal call to a call of the model that writes nothing that was there. Conditions: none (lemmas). -/
namespace Go.Idl
open Go

def oldF (w : World) : Nat → Prop := fun b => b < w.heap.size

/-- An argument of the outermost call: data that nobody writes. -/
inductive ArgR (w : World) : IV → Value → Prop
  | one {x : IV} {v : Value} (h : RDs w (oldF w) [x] [v] []) : ArgR w x v
  | agg {cs : List IV} {C : Array Value} (h : RDs w (oldF w) cs C.toList []) : ArgR w (.agg cs) (.agg C)

inductive ArgsR (w : World) : List IV → List Value → Prop
  | nil : ArgsR w [] []
  | cons {x v xs vs} (h : ArgR w x v) (t : ArgsR w xs vs) : ArgsR w (x :: xs) (v :: vs)

theorem ArgsR.len {w xs vs} (h : ArgsR w xs vs) : xs.length = vs.length := by
  induction h with
  | nil => rfl
  | cons _ _ ih => simp [ih]

section
variable {cx : Cx} {w : World}

theorem rds_cat {F : Nat → Prop} {ρ : Rho} {st : St} {lk} : ∀ {cs : List IV} {vs : List Value}, RDs w F cs vs [] → Cat (RC cx w F ρ st lk) cs vs []
  | [], vs, h => by cases h; exact .nil
  | c :: cs, vs, h => by
    obtain ⟨v, us, f1, f2, rfl, hf, h1, h2⟩ := h.cons_inv
    obtain ⟨rfl, rfl⟩ := List.append_eq_nil_iff.1 hf.symm
    exact Cat.cons (f := []) (fp := []) (.inr h1) (rds_cat h2)

theorem ArgR.slot {x v} (h : ArgR w x v) {ρ : Rho} {st : St} {lk} : RSlot cx w (oldF w) ρ st lk x v [] := by
  cases h with
  | agg h => exact ⟨_, rfl, rds_cat h⟩
  | one h =>
    cases x with
    | tup vs => cases h
    | agg cs => cases h
    | un => exact rfl
    | _ => exact .inr h

theorem tget_argsT {xs : List IV} (s k : Nat) : tget ((xs.zipIdx k).map fun (v, i) => (i, v)) s = if k ≤ s then xs.getD (s - k) .un else .un := by
  induction xs generalizing k with
  | nil => simp [tget]
  | cons x xs ih =>
    rw [List.zipIdx_cons, List.map_cons]
    simp only [tget]
    by_cases hk : k = s
    · subst hk; simp
    · rw [if_neg hk, ih]
      by_cases h1 : k ≤ s
      · have h2 : k + 1 ≤ s := by omega
        rw [if_pos h1, if_pos h2, show s - k = (s - (k + 1)) + 1 by omega]
        simp
      · have h2 : ¬ k + 1 ≤ s := by omega
        rw [if_neg h1, if_neg h2]

theorem ArgsR.get {xs vs} (h : ArgsR w xs vs) : ∀ s, (xs.getD s .un = .un ∧ xs.length ≤ s) ∨ ArgR w (xs.getD s .un) (vs.getD s undef) := by
  induction h with
  | nil => intro s; exact .inl ⟨by simp, by simp⟩
  | cons h t ih =>
    intro s
    cases s with
    | zero => exact .inr (by simpa using h)
    | succ s =>
      rcases ih s with ⟨h1, h2⟩ | h1
      · exact .inl ⟨by simpa using h1, by simpa using h2⟩
      · exact .inr (by simpa using h1)

theorem argRel {xs vs} (h : ArgsR w xs vs) (ρ : Rho) : Rel cx w (oldF w) ρ (fun _ => []) [] (argSt xs []) (argTm vs) := by
  have hbox : ∀ l k, (argSt xs []).box l k = none := fun l k => by simp [St.box, argSt]
  refine ⟨fun s => ?_, fun l k cs hb => (by rw [hbox] at hb; cases hb), fun _ _ _ => rfl, fun _ => List.nodup_nil, fun _ _ _ _ hb => absurd hb (by simp), fun _ _ hb => absurd hb (by simp), fun _ _ hb => absurd hb (by simp), fun _ hb => hb, List.nodup_nil, fun _ _ hb => absurd hb (by simp), fun _ hb => absurd hb (by simp), fun _ hb => absurd hb (by simp)⟩
  have : tget (argSt xs []).T s = xs.getD s .un := by
    have := tget_argsT (xs := xs) s 0
    simpa [argSt] using this
  rw [this]
  rcases h.get s with ⟨h1, -⟩ | h1
  · rw [h1]; exact rcomp_un
  · exact h1.slot

/-- The ideal call answers true: so does the model's. -/
theorem law_calls {tb : Tbl} (htb : TblOK cx tb) (hm : cx.P.follows .mixedOrders = true) {f : Lab} {xs : List IV} {vs : List Value} (h : ArgsR w xs vs) {n : Nat} (hc : callN tb n f [] xs [] = some ⟨.sc (.bool true), [], [], []⟩) :
    Calls cx.P (cx.fid f) vs.toArray w (fun e w' => e = .returned (.bool true) ∧ RowKit.Below w.heap.size w w') := by
  refine ((callN_sound htb hm n f [] xs [] _ hc).2 w (oldF w) (fun _ _ => 0) (fun _ => []) vs h.len.symm (argRel h _)).mono ?_
  rintro e w' ⟨v', F', ρ', fp', Xb, rfl, hR, hE, -⟩
  have hs := hR.slots 0
  have hv : v' = .bool true := (rslot_sc hs).1
  subst hv
  refine ⟨rfl, ⟨hE.env.1, hE.env.2.1, hE.env.2.2, hE.size, fun k hk => hE.keep k hk (by simp) (by simp)⟩⟩

end

/-- A slice of small integers that came in. -/
theorem arg_ints {w : World} {k : IntKind} {a : Option Addr} {len cap : Nat} {zs : List Int} (h : (a = none ∧ len = 0 ∧ cap = 0 ∧ zs = []) ∨
    ∃ x, a = some x ∧ len ≤ cap ∧ zs.length = cap ∧ (∀ i, i < zs.length → w.cell? (x.add i) = some (.int k (zs.getD i 0)))) :
    ArgR w (.lst 1 ((zs.take len).map fun n => [.sc (.int k n)]) false) (.slice a len cap) := by
  rcases h with ⟨rfl, rfl, rfl, rfl⟩ | ⟨x, rfl, h1, h2, h3⟩
  · exact .one (.lst0 (by simp) .nil)
  · rcases Nat.eq_zero_or_pos len with h0 | h0
    · subst h0
      simp only [List.take_zero, List.map_nil]
      exact .one (.lst0 (by simp) .nil)
    · have hx := h3 0 (by omega)
      rw [show x.add 0 = x from rfl] at hx
      obtain ⟨b, o, sp⟩ := x
      unfold World.cell? at hx
      split at hx
      rotate_left
      · cases hx
      rename_i C ty fr hb
      simp only at hb
      cases sp with
      | some _ => simp at hx
      | none =>
      have hcell : ∀ i, i < zs.length → C[o + i]? = some (.int k (zs.getD i 0)) := fun i hi => by
        have := h3 i hi
        rw [addr_add, cell_of hb] at this
        exact this
      have hlen : ((zs.take len).map fun n => [IV.sc (.int k n)]).length = len := by simp; omega
      have hd : ∀ (l : List Int) (m : Nat), (∀ i, i < l.length → C[m + i]? = some (.int k (l.getD i 0))) → RDs w (oldF w) (l.map fun n => [IV.sc (.int k n)]).flatten ((C.toList.drop m).take l.length) [] := by
        intro l
        induction l with
        | nil => intro m _; simp; exact .nil
        | cons n l ih =>
          intro m hl
          have h0 := hl 0 (by simp)
          have hm : C.toList.drop m = .int k n :: C.toList.drop (m + 1) := by
            rw [List.drop_eq_getElem?_toList_append]
            have : C.toList[m]? = some (.int k n) := by simpa using h0
            rw [this]; rfl
          rw [hm, List.length_cons, List.take_succ_cons, List.map_cons, List.flatten_cons]
          refine .sc rfl (ih (m + 1) fun i hi => ?_)
          have := hl (i + 1) (by simp; omega)
          simpa [Nat.add_assoc, Nat.add_comm 1 i] using this
      have hb' : b < w.heap.size := by
        rcases Nat.lt_or_ge b w.heap.size with h | h
        · exact h
        · rw [Array.getElem?_eq_none h] at hb; cases hb
      have hdd := hd (zs.take len) o (fun i hi => by
        rw [List.length_take] at hi
        rw [hcell i (by omega)]
        simp [List.getD_eq_getElem?_getD, List.getElem?_take_of_lt (show i < len by omega)])
      have hll : (zs.take len).length = len := by rw [List.length_take]; omega
      rw [hll] at hdd
      have := RDs.lst (w := w) (F := oldF w) (e := 1) (es := (zs.take len).map fun n => [IV.sc (.int k n)]) (clip := false) (b := b) (o := o) (cap := cap) (xs := []) (vs := []) (fp := []) hb' hb
        (by rw [hlen, Nat.mul_one]; exact hdd) (fun x hx => by simp only [List.mem_map] at hx; obtain ⟨n, _, rfl⟩ := hx; rfl) (by simp) (by rw [hlen]; exact h1) .nil
      rw [hlen] at this
      exact .one this

theorem tbl_ok {cx : Cx} : ∀ {L : List (Nat × IFun)}, (∀ p ∈ L, ∃ rf, cx.P.funcs[cx.fid p.1]? = some rf ∧ bFun cx rf p.2 = true) → TblOK cx (tbOf L)
  | [], _, f, fn, h => by cases h
  | (k, g) :: r, hL, f, fn, h => by
    simp only [tbOf] at h
    split at h
    · rename_i hk
      subst hk
      simp only [Option.some.injEq] at h
      subst h
      exact hL (k, g) (by simp)
    · exact tbl_ok (fun p hp => hL p (by simp [hp])) f fn h

end Go.Idl

/- Walking an ideal call: what its code comes to, as a proposition. Conditions: none (definitions and lemmas). -/
namespace Go.Idl
open Go

/-- A call comes to an answer, with fuel enough. -/
def Ev (tb : Tbl) (f : Lab) (lent : List Nat) (args : List IV) (M : List Boxes) (r : Ret) : Prop := ∃ N, ∀ n, N ≤ n → callN tb n f lent args M = some r

open Classical in
/-- What calls answer, with fuel enough. -/
noncomputable def limF (tb : Tbl) : CF := fun f lent args M => if h : ∃ r, Ev tb f lent args M r then some (Classical.choose h) else none

def WO (tb : Tbl) (ops : List IOp) (st : St) (Q : St → Prop) : Prop := ∃ st', execOps (limF tb) st ops = some st' ∧ Q st'

def loopN (step : St → (Ex → St → Prop) → Prop) (Q : Ex → St → Prop) : Nat → St → Prop
  | 0, _ => False
  | k + 1, st => step st fun ex st' => match ex with
    | .normal => loopN step Q k st'
    | e => Q e st'

def nilW (x : Opd) (t : Nat) (live : List Nat) (st : St) (f : St → (Ex → St → Prop) → Prop) (Q : Ex → St → Prop) : Prop := match emptyL (rd st.T x) with
  | some false => f (st.flag t false live) Q
  | some true => ∃ ex st', f (st.flag t true live) (fun e s => e = ex ∧ s = st') ∧ f (st.flag t false live) (fun e s => e = ex ∧ s = st') ∧ Q ex st'
  | none => False

def wp (tb : Tbl) : IC → St → (Ex → St → Prop) → Prop
  | .skip, st, Q => Q .normal st
  | .reg ops live alts, st, Q => WO tb ops st fun st1 => (∀ p ∈ alts, WO tb (inOrder ops p) st fun st2 => st2.cut live = st1.cut live) ∧ Q .normal (st1.cut live)
  | .seq a b, st, Q => wp tb a st fun ex st' => match ex with
    | .normal => wp tb b st' Q
    | e => Q e st'
  | .nilc ops x t live y, st, Q => WO tb ops st fun st1 => nilW x t live st1 (wp tb y) Q
  | .nilc2 ops x t live y1 y2, st, Q => WO tb ops st fun st1 => nilW x t live st1 (fun st Q => wp tb y1 st fun ex st' => match ex with
    | .normal => wp tb y2 st' Q
    | e => Q e st') Q
  | .cond c a b, st, Q => match rd st.T c with
    | .sc (.bool t) => if t = true then wp tb a st Q else wp tb b st Q
    | _ => False
  | .block id b, st, Q => wp tb b st fun ex st' => match ex with
    | .exit i => if i = id then Q .normal st' else Q (.exit i) st'
    | e => Q e st'
  | .loop b, st, Q => ∃ k, loopN (wp tb b) Q k st
  | .exit id, st, Q => Q (.exit id) st
  | .ret, st, Q => Q .ret st

section
variable {tb : Tbl}

theorem Ev.det {f lent args M r r'} (h : Ev tb f lent args M r) (h' : Ev tb f lent args M r') : r = r' := by
  obtain ⟨N, hN⟩ := h
  obtain ⟨N', hN'⟩ := h'
  have h1 := hN (max N N') (by omega)
  have h2 := hN' (max N N') (by omega)
  rw [h1] at h2
  exact Option.some.inj h2

theorem lim_ev {f lent args M r} (h : limF tb f lent args M = some r) : Ev tb f lent args M r := by
  unfold limF at h
  split at h
  · rename_i hex
    simp only [Option.some.injEq] at h
    rw [← h]; exact Classical.choose_spec hex
  · cases h

theorem ev_lim {f lent args M r} (h : Ev tb f lent args M r) : limF tb f lent args M = some r := by
  have hex : ∃ r, Ev tb f lent args M r := ⟨r, h⟩
  unfold limF
  rw [dif_pos hex]
  congr 1
  exact (Classical.choose_spec hex).det h

theorem callWith_lim {st : St} {f : Lab} {caps : List IV} {args : List (Mode × Opd)} {p : Bool} {v : IV} {st' : St} (h : st.callWith (limF tb) f caps args p = some (v, st')) :
    ∃ N, ∀ n, N ≤ n → st.callWith (callN tb n) f caps args p = some (v, st') := by
  unfold St.callWith at h ⊢
  split at h
  rotate_left
  · cases h
  rename_i vs st1 fz ss hargs
  cases p with
  | true =>
    simp only [if_true] at h ⊢
    split at h
    · cases h
    rename_i hc
    cases hl : limF tb f [] vs [] with
    | none => simp [hl] at h
    | some r =>
    obtain ⟨N, hN⟩ := lim_ev hl
    rw [hl] at h
    refine ⟨N, fun n hn => ?_⟩
    simp only [hc, if_false, Bool.false_eq_true, hN n hn]
    exact h
  | false =>
    simp only [Bool.false_eq_true, if_false] at h ⊢
    split at h
    · cases h
    rename_i hc
    cases hl : limF tb f (lents args 0) (vs ++ caps) (st1.M ++ [st1.loc]) with
    | none => simp [hl] at h
    | some r =>
    obtain ⟨N, hN⟩ := lim_ev hl
    rw [hl] at h
    refine ⟨N, fun n hn => ?_⟩
    simp only [hc, if_false, Bool.false_eq_true, hN n hn]
    exact h

theorem ev_limN {st : St} {k : K} {v : IV} {st' : St} (h : ev (limF tb) st k = some (v, st')) : ∃ N, ∀ n, N ≤ n → ev (callN tb n) st k = some (v, st') := by
  cases k with
  | call f args p => exact callWith_lim h
  | callv x args =>
    simp only [ev] at h ⊢
    split at h
    · exact callWith_lim h
    · cases h
  | _ => exact ⟨0, fun n _ => h⟩

theorem op_lim {st : St} {o : IOp} {st' : St} (h : execOp1 (limF tb) st o = some st') : ∃ N, ∀ n, N ≤ n → execOp1 (callN tb n) st o = some st' := by
  unfold execOp1 at h ⊢
  have run : ∀ {st'' : St}, (match ev (limF tb) st o.k with
      | some (v, st') => match o.dst with
        | some d => some { st' with T := tput st'.T d v }
        | none => some st'
      | none => none) = some st'' → ∃ N, ∀ n, N ≤ n → (match ev (callN tb n) st o.k with
      | some (v, st') => match o.dst with
        | some d => some { st' with T := tput st'.T d v }
        | none => some st'
      | none => none) = some st'' := by
    intro st'' h
    cases hl : ev (limF tb) st o.k with
    | none => simp [hl] at h
    | some p =>
      obtain ⟨v, s⟩ := p
      obtain ⟨N, hN⟩ := ev_limN hl
      rw [hl] at h
      exact ⟨N, fun n hn => by rw [hN n hn]; exact h⟩
  split at h
  · exact run h
  · split at h
    · split at h
      · rename_i hc
        obtain ⟨N, hN⟩ := run h
        refine ⟨N, fun n hn => ?_⟩
        simp only [hc, if_true]
        exact hN n hn
      · rename_i hc
        exact ⟨0, fun n _ => by simp only [hc, if_false]; exact h⟩
    · exact ⟨0, fun n _ => h⟩
    · cases h

theorem ops_lim : ∀ {ops : List IOp} {st st' : St}, execOps (limF tb) st ops = some st' → ∃ N, ∀ n, N ≤ n → execOps (callN tb n) st ops = some st'
  | [], st, st', h => ⟨0, fun _ _ => h⟩
  | o :: r, st, st', h => by
    simp only [execOps] at h ⊢
    split at h
    · rename_i st1 h1
      obtain ⟨N, hN⟩ := op_lim h1
      obtain ⟨N', hN'⟩ := ops_lim h
      exact ⟨max N N', fun n hn => by simp only [hN n (by omega), hN' n (by omega)]⟩
    · cases h

theorem WO_sound {ops : List IOp} {st : St} {Q : St → Prop} (h : WO tb ops st Q) : ∃ st', Q st' ∧ (∃ N, ∀ n, N ≤ n → execOps (callN tb n) st ops = some st') ∧ ∀ Q' : St → Prop, Q' st' → WO tb ops st Q' := by
  obtain ⟨st', h1, h2⟩ := h
  exact ⟨st', h2, ops_lim h1, fun Q' hQ' => ⟨st', h1, hQ'⟩⟩

/-- What the code comes to. -/
def Runs (tb : Tbl) (c : IC) (st : St) (ex : Ex) (st' : St) : Prop := ∃ N, ∀ n, N ≤ n → ∀ m, N ≤ m → exec (callN tb n) m c st = some (ex, st')

theorem wp_sound : ∀ {c : IC} {st : St} {Q : Ex → St → Prop}, wp tb c st Q → ∃ ex st', Q ex st' ∧ Runs tb c st ex st' ∧ ∀ Q' : Ex → St → Prop, Q' ex st' → wp tb c st Q'
  | .skip, st, Q, h => ⟨.normal, st, h, ⟨0, fun _ _ _ _ => rfl⟩, fun _ h => h⟩
  | .exit id, st, Q, h => ⟨.exit id, st, h, ⟨0, fun _ _ _ _ => rfl⟩, fun _ h => h⟩
  | .ret, st, Q, h => ⟨.ret, st, h, ⟨0, fun _ _ _ _ => rfl⟩, fun _ h => h⟩
  | .reg ops live alts, st, Q, h => by
    simp only [wp] at h
    obtain ⟨st1, ⟨h1, h2⟩, ⟨N, hN⟩, h3⟩ := WO_sound h
    have halt : ∃ N, ∀ n, N ≤ n → ∀ p ∈ alts, ∃ st2, execOps (callN tb n) st (inOrder ops p) = some st2 ∧ st2.cut live = st1.cut live := by
      clear h h3
      induction alts with
      | nil => exact ⟨0, fun _ _ p hp => by cases hp⟩
      | cons p ps ih =>
        obtain ⟨N1, hN1⟩ := ih (fun q hq => h1 q (by simp [hq]))
        obtain ⟨st2, q1, ⟨N2, hN2⟩, -⟩ := WO_sound (h1 p (by simp))
        refine ⟨max N1 N2, fun n hn q hq => ?_⟩
        rcases List.mem_cons.1 hq with rfl | hq
        · exact ⟨st2, hN2 n (by omega), q1⟩
        · exact hN1 n (by omega) q hq
    obtain ⟨N', hN'⟩ := halt
    refine ⟨.normal, st1.cut live, h2, ⟨max N N', fun n hn m hm => ?_⟩, fun Q' hQ' => ?_⟩
    · simp only [exec, execReg, hN n (by omega)]
      rw [if_pos (hN' n (by omega))]
    · simp only [wp]; exact h3 _ ⟨h1, hQ'⟩
  | .seq a b, st, Q, h => by
    simp only [wp] at h
    obtain ⟨ex, st1, h1, ⟨N, hN⟩, h2⟩ := wp_sound h
    cases ex with
    | normal =>
      obtain ⟨ex2, st2, q1, ⟨N2, hN2⟩, q2⟩ := wp_sound h1
      refine ⟨ex2, st2, q1, ⟨max N N2, fun n hn m hm => ?_⟩, fun Q' hQ' => ?_⟩
      · simp only [exec, hN n (by omega) m (by omega), hN2 n (by omega) m (by omega)]
      · simp only [wp]; exact h2 _ (q2 _ hQ')
    | exit id =>
      refine ⟨.exit id, st1, h1, ⟨N, fun n hn m hm => ?_⟩, fun Q' hQ' => ?_⟩
      · simp only [exec, hN n hn m hm]
      · simp only [wp]; exact h2 _ hQ'
    | ret =>
      refine ⟨.ret, st1, h1, ⟨N, fun n hn m hm => ?_⟩, fun Q' hQ' => ?_⟩
      · simp only [exec, hN n hn m hm]
      · simp only [wp]; exact h2 _ hQ'
  | .cond c a b, st, Q, h => by
    simp only [wp] at h
    split at h
    rotate_left
    · exact h.elim
    rename_i t ht
    cases t with
    | true =>
      simp only [if_true] at h
      obtain ⟨ex, st1, h1, ⟨N, hN⟩, h2⟩ := wp_sound h
      refine ⟨ex, st1, h1, ⟨N, fun n hn m hm => ?_⟩, fun Q' hQ' => ?_⟩
      · simp only [exec, ht, if_true, hN n hn m hm]
      · simp only [wp, ht, if_true]; exact h2 _ hQ'
    | false =>
      simp only [Bool.false_eq_true, if_false] at h
      obtain ⟨ex, st1, h1, ⟨N, hN⟩, h2⟩ := wp_sound h
      refine ⟨ex, st1, h1, ⟨N, fun n hn m hm => ?_⟩, fun Q' hQ' => ?_⟩
      · simp only [exec, ht, Bool.false_eq_true, if_false, hN n hn m hm]
      · simp only [wp, ht, Bool.false_eq_true, if_false]; exact h2 _ hQ'
  | .block id b, st, Q, h => by
    simp only [wp] at h
    obtain ⟨ex, st1, h1, ⟨N, hN⟩, h2⟩ := wp_sound h
    cases ex with
    | normal =>
      refine ⟨.normal, st1, h1, ⟨N, fun n hn m hm => ?_⟩, fun Q' hQ' => ?_⟩
      · simp only [exec, hN n hn m hm]
      · simp only [wp]; exact h2 _ hQ'
    | ret =>
      refine ⟨.ret, st1, h1, ⟨N, fun n hn m hm => ?_⟩, fun Q' hQ' => ?_⟩
      · simp only [exec, hN n hn m hm]
      · simp only [wp]; exact h2 _ hQ'
    | exit i =>
      simp only at h1
      by_cases hi : i = id
      · rw [if_pos hi] at h1
        refine ⟨.normal, st1, h1, ⟨N, fun n hn m hm => ?_⟩, fun Q' hQ' => ?_⟩
        · simp only [exec, hN n hn m hm, hi, if_true]
        · simp only [wp]; exact h2 _ (by simp only [hi, if_true]; exact hQ')
      · rw [if_neg hi] at h1
        refine ⟨.exit i, st1, h1, ⟨N, fun n hn m hm => ?_⟩, fun Q' hQ' => ?_⟩
        · simp only [exec, hN n hn m hm, hi, if_false]
        · simp only [wp]; exact h2 _ (by simp only [hi, if_false]; exact hQ')
  | .loop b, st, Q, h => by
    simp only [wp] at h
    obtain ⟨k, h⟩ := h
    have key : ∀ (k : Nat) (st : St), loopN (wp tb b) Q k st → ∃ ex st', Q ex st' ∧ (∃ N, ∀ n, N ≤ n → ∀ m, N ≤ m → ∀ j, N ≤ j → iter (exec (callN tb n) m b) j st = some (ex, st')) ∧ ∀ Q' : Ex → St → Prop, Q' ex st' → loopN (wp tb b) Q' k st := by
      intro k
      induction k with
      | zero => intro st h; exact h.elim
      | succ k ih =>
        intro st h
        simp only [loopN] at h
        obtain ⟨ex, st1, h1, ⟨N, hN⟩, h2⟩ := wp_sound h
        cases ex with
        | normal =>
          obtain ⟨ex2, st2, q1, ⟨N2, hN2⟩, q2⟩ := ih st1 h1
          refine ⟨ex2, st2, q1, ⟨max N N2 + 1, fun n hn m hm j hj => ?_⟩, fun Q' hQ' => ?_⟩
          · obtain ⟨j', rfl⟩ : ∃ j', j = j' + 1 := ⟨j - 1, by omega⟩
            simp only [iter, hN n (by omega) m (by omega), hN2 n (by omega) m (by omega) j' (by omega)]
          · simp only [loopN]; exact h2 _ (q2 _ hQ')
        | exit i =>
          refine ⟨.exit i, st1, h1, ⟨N + 1, fun n hn m hm j hj => ?_⟩, fun Q' hQ' => ?_⟩
          · obtain ⟨j', rfl⟩ : ∃ j', j = j' + 1 := ⟨j - 1, by omega⟩
            simp only [iter, hN n (by omega) m (by omega)]
          · simp only [loopN]; exact h2 _ hQ'
        | ret =>
          refine ⟨.ret, st1, h1, ⟨N + 1, fun n hn m hm j hj => ?_⟩, fun Q' hQ' => ?_⟩
          · obtain ⟨j', rfl⟩ : ∃ j', j = j' + 1 := ⟨j - 1, by omega⟩
            simp only [iter, hN n (by omega) m (by omega)]
          · simp only [loopN]; exact h2 _ hQ'
    obtain ⟨ex, st', q1, ⟨N, hN⟩, q2⟩ := key k st h
    exact ⟨ex, st', q1, ⟨N, fun n hn m hm => by simp only [exec]; exact hN n hn m hm m hm⟩, fun Q' hQ' => by simp only [wp]; exact ⟨k, q2 Q' hQ'⟩⟩
  | .nilc ops x t live y, st, Q, h => by
    simp only [wp] at h
    obtain ⟨st1, h1, ⟨N, hN⟩, h3⟩ := WO_sound h
    unfold nilW at h1
    split at h1
    · rename_i he
      obtain ⟨ex, st2, q1, ⟨N2, hN2⟩, q2⟩ := wp_sound h1
      refine ⟨ex, st2, q1, ⟨max N N2, fun n hn m hm => ?_⟩, fun Q' hQ' => ?_⟩
      · simp only [exec, nilStep, hN n (by omega), he, hN2 n (by omega) m (by omega)]
      · simp only [wp]; exact h3 _ (by unfold nilW; rw [he]; exact q2 _ hQ')
    · rename_i he
      obtain ⟨ex, st', h1, h2, hQ⟩ := h1
      obtain ⟨_, _, ⟨rfl, rfl⟩, ⟨N1, hN1⟩, q1⟩ := wp_sound h1
      obtain ⟨_, _, ⟨rfl, rfl⟩, ⟨N2, hN2⟩, q2⟩ := wp_sound h2
      refine ⟨_, _, hQ, ⟨max N (max N1 N2), fun n hn m hm => ?_⟩, fun Q' hQ' => ?_⟩
      · simp only [exec, nilStep, hN n (by omega), he, hN1 n (by omega) m (by omega), hN2 n (by omega) m (by omega), if_true]
      · simp only [wp]; exact h3 _ (by unfold nilW; rw [he]; exact ⟨_, _, h1, h2, hQ'⟩)
    · exact h1.elim
  | .nilc2 ops x t live y1 y2, st, Q, h => by
    simp only [wp] at h
    obtain ⟨st1, h1, ⟨N, hN⟩, h3⟩ := WO_sound h
    have two : ∀ {st : St} {Q : Ex → St → Prop}, (wp tb y1 st fun ex st' => match ex with | .normal => wp tb y2 st' Q | e => Q e st') → ∃ ex st', Q ex st' ∧ (∃ N, ∀ n, N ≤ n → ∀ m, N ≤ m → seqX (exec (callN tb n) m y1) (exec (callN tb n) m y2) st = some (ex, st')) ∧ ∀ Q' : Ex → St → Prop, Q' ex st' → (wp tb y1 st fun ex st' => match ex with | .normal => wp tb y2 st' Q' | e => Q' e st') := by
      intro st Q h
      obtain ⟨ex, st1, h1, ⟨N, hN⟩, h2⟩ := wp_sound h
      cases ex with
      | normal =>
        obtain ⟨ex2, st2, q1, ⟨N2, hN2⟩, q2⟩ := wp_sound h1
        exact ⟨ex2, st2, q1, ⟨max N N2, fun n hn m hm => by simp only [seqX, hN n (by omega) m (by omega), hN2 n (by omega) m (by omega)]⟩, fun Q' hQ' => h2 _ (q2 _ hQ')⟩
      | exit id => exact ⟨.exit id, st1, h1, ⟨N, fun n hn m hm => by simp only [seqX, hN n hn m hm]⟩, fun Q' hQ' => h2 _ hQ'⟩
      | ret => exact ⟨.ret, st1, h1, ⟨N, fun n hn m hm => by simp only [seqX, hN n hn m hm]⟩, fun Q' hQ' => h2 _ hQ'⟩
    unfold nilW at h1
    split at h1
    · rename_i he
      obtain ⟨ex, st2, q1, ⟨N2, hN2⟩, q2⟩ := two h1
      refine ⟨ex, st2, q1, ⟨max N N2, fun n hn m hm => ?_⟩, fun Q' hQ' => ?_⟩
      · simp only [exec, nilStep, hN n (by omega), he]; exact hN2 n (by omega) m (by omega)
      · simp only [wp]; exact h3 _ (by unfold nilW; rw [he]; exact q2 _ hQ')
    · rename_i he
      obtain ⟨ex, st', h1, h2, hQ⟩ := h1
      obtain ⟨_, _, ⟨rfl, rfl⟩, ⟨N1, hN1⟩, q1⟩ := two h1
      obtain ⟨_, _, ⟨rfl, rfl⟩, ⟨N2, hN2⟩, q2⟩ := two h2
      refine ⟨_, _, hQ, ⟨max N (max N1 N2), fun n hn m hm => ?_⟩, fun Q' hQ' => ?_⟩
      · simp only [exec, nilStep, hN n (by omega), he]
        rw [hN1 n (by omega) m (by omega), hN2 n (by omega) m (by omega)]
        simp
      · simp only [wp]; exact h3 _ (by unfold nilW; rw [he]; exact ⟨_, _, h1, h2, hQ'⟩)
    · exact h1.elim

/-- A round, and the rest. -/
theorem wp_loop {b : IC} {st : St} {Q : Ex → St → Prop} (h : wp tb b st fun ex st' => match ex with
    | .normal => wp tb (.loop b) st' Q
    | e => Q e st') : wp tb (.loop b) st Q := by
  obtain ⟨ex, st', h1, -, h2⟩ := wp_sound h
  cases ex with
  | normal =>
    simp only [wp] at h1
    obtain ⟨k, hk⟩ := h1
    exact ⟨k + 1, h2 _ hk⟩
  | exit i => exact ⟨1, h2 _ h1⟩
  | ret => exact ⟨1, h2 _ h1⟩

/-- The end of a call. -/
def finish (f : IFun) (lent : List Nat) (st : St) : Option Ret := match st.retvs f.res with
  | some (vs, st) => match st.backs lent with
    | some (back, st) => st.leave (packRes vs) back
    | none => none
  | none => none

/-- A call, by its body. -/
theorem call_of_wp {f : Lab} {fn : IFun} (hf : tb f = some fn) {lent : List Nat} {args : List IV} {M : List Boxes} {r : Ret} (hl : lent.all fn.keep.contains = true)
    (h : wp tb fn.body { T := args.zipIdx.map fun (v, i) => (i, v), loc := [], M := M } fun ex st => (ex = .normal ∨ ex = .ret) ∧ finish fn lent st = some r) : Ev tb f lent args M r := by
  obtain ⟨ex, st', ⟨h1, h2⟩, ⟨N, hN⟩, -⟩ := wp_sound h
  refine ⟨N + 1, fun n hn => ?_⟩
  obtain ⟨n', rfl⟩ : ∃ n', n = n' + 1 := ⟨n - 1, by omega⟩
  simp only [callN, hf, runFun, hl, Bool.not_true, Bool.false_eq_true, if_false, hN n' (by omega) n' (by omega)]
  unfold finish at h2
  rcases h1 with rfl | rfl <;> exact h2

end
end Go.Idl

/- Rules for the walk. Conditions: none (lemmas). -/
namespace Go.Idl
open Go

abbrev I (n : Int) : IV := .sc (.int .i64 n)
abbrev Bo (b : Bool) : IV := .sc (.bool b)
def ints (xs : List Int) : List (List IV) := xs.map fun n => [I n]

section
variable {tb : Tbl} {st : St} {Q Q' : Ex → St → Prop}

theorem wpi_skip : wp tb .skip st Q = Q .normal st := rfl
theorem wp_reg {ops live st1 st2} (h : execOps (limF tb) st ops = some st1) (hc : st1.cut live = st2) (hq : Q .normal st2) : wp tb (.reg ops live []) st Q := by
  subst hc
  exact ⟨st1, h, by simp, hq⟩
/-- A region, and then. -/
theorem wp_rs {ops live b st1 st2} (h : execOps (limF tb) st ops = some st1) (hc : st1.cut live = st2) (hb : wp tb b st2 Q) : wp tb (.seq (.reg ops live []) b) st Q :=
  by simp only [wp]; exact wp_reg (Q := fun ex st' => match ex with | .normal => wp tb b st' Q | e => Q e st') h hc hb
/-- A region that may be run in other orders. -/
theorem wp_ra {ops live alts b st1 st2} (h : execOps (limF tb) st ops = some st1) (hc : st1.cut live = st2) (ha : ∀ p ∈ alts, ∃ st3, execOps (limF tb) st (inOrder ops p) = some st3 ∧ st3.cut live = st2) (hb : wp tb b st2 Q) : wp tb (.seq (.reg ops live alts) b) st Q := by
  subst hc
  simp only [wp]
  exact ⟨st1, h, ha, hb⟩
theorem wp_rega {ops live alts st1 st2} (h : execOps (limF tb) st ops = some st1) (hc : st1.cut live = st2) (ha : ∀ p ∈ alts, ∃ st3, execOps (limF tb) st (inOrder ops p) = some st3 ∧ st3.cut live = st2) (hq : Q .normal st2) : wp tb (.reg ops live alts) st Q := by
  subst hc
  exact ⟨st1, h, ha, hq⟩
theorem wp_as {a b c} (h : wp tb (.seq a (.seq b c)) st Q) : wp tb (.seq (.seq a b) c) st Q := by
  simp only [wp] at h ⊢
  obtain ⟨ex, st1, h1, -, h2⟩ := wp_sound h
  refine h2 _ ?_
  cases ex <;> exact h1
theorem wpi_seq {a b} : wp tb (.seq a b) st Q = wp tb a st fun ex st' => match ex with
    | .normal => wp tb b st' Q
    | e => Q e st' := rfl
theorem wpi_cond {c a b} : wp tb (.cond c a b) st Q = match rd st.T c with
    | .sc (.bool t) => if t = true then wp tb a st Q else wp tb b st Q
    | _ => False := rfl
theorem wpi_block {id b} : wp tb (.block id b) st Q = wp tb b st fun ex st' => match ex with
    | .exit i => if i = id then Q .normal st' else Q (.exit i) st'
    | e => Q e st' := rfl
theorem wpi_exit {id} : wp tb (.exit id) st Q = Q (.exit id) st := rfl
theorem wpi_ret : wp tb .ret st Q = Q .ret st := rfl
theorem wp_imp {c} (h : wp tb c st Q) (hq : ∀ ex st', Q ex st' → Q' ex st') : wp tb c st Q' := by
  obtain ⟨ex, st', h1, -, h2⟩ := wp_sound h
  exact h2 _ (hq _ _ h1)
end

theorem wrap64 {n : Int} (h : -9223372036854775808 ≤ n) (h' : n < 9223372036854775808) : IntKind.i64.wrap n = n := by
  have e1 : (2 : Int) ^ IntKind.i64.bits = 18446744073709551616 := by decide
  have e2 : (2 : Int) ^ (IntKind.i64.bits - 1) = 9223372036854775808 := by decide
  have e3 : IntKind.i64.signed = true := rfl
  unfold IntKind.wrap
  rw [e1, e2, e3]
  simp only [Bool.true_and, decide_eq_true_eq, ge_iff_le]
  split <;> omega

theorem natOf_nat {k : IntKind} {n : Nat} : natOf (.sc (.int k (n : Int))) = some n := by simp [natOf]

@[simp] theorem ints_get? (xs : List Int) (i : Nat) : (ints xs)[i]? = xs[i]?.map fun n => [IV.sc (.int .i64 n)] := by simp [ints]
@[simp] theorem ints_get (xs : List Int) (i : Nat) (h : i < (ints xs).length) : (ints xs)[i] = [IV.sc (.int .i64 (xs[i]'(by simpa [ints] using h)))] := by simp [ints]


section
variable {tb : Tbl} {st : St} {Q Q' : Ex → St → Prop}
theorem wp_ret' (h : Q .ret st) : wp tb .ret st Q := h
theorem wp_skip' (h : Q .normal st) : wp tb .skip st Q := h
theorem wp_exit' {id} (h : Q (.exit id) st) : wp tb (.exit id) st Q := h
/-- A test, and then. -/
theorem wp_ct {c a b d t} (hc : rd st.T c = .sc (.bool t)) (h1 : t = true → wp tb (.seq a d) st Q) (h2 : t = false → wp tb (.seq b d) st Q) : wp tb (.seq (.cond c a b) d) st Q := by
  simp only [wp, hc] at *
  cases t
  · simpa using h2 rfl
  · simpa using h1 rfl
theorem wp_c {c a b t} (hc : rd st.T c = .sc (.bool t)) (h1 : t = true → wp tb a st Q) (h2 : t = false → wp tb b st Q) : wp tb (.cond c a b) st Q := by
  simp only [wp, hc] at *
  cases t
  · simpa using h2 rfl
  · simpa using h1 rfl
theorem wp_ss {b} (h : wp tb b st Q) : wp tb (.seq .skip b) st Q := h
theorem wp_sr {b} (h : Q .ret st) : wp tb (.seq .ret b) st Q := h
theorem wp_sx {id b} (h : Q (.exit id) st) : wp tb (.seq (.exit id) b) st Q := h
/-- A block, and then: what is behind it is met where it is left. -/
theorem wp_bs {id b c} (h : wp tb b st fun ex st' => match ex with
    | .normal => wp tb c st' Q
    | .exit i => if i = id then wp tb c st' Q else Q (.exit i) st'
    | .ret => Q .ret st') : wp tb (.seq (.block id b) c) st Q := by
  simp only [wp]
  refine wp_imp h fun ex st' hh => ?_
  cases ex with
  | normal => exact hh
  | ret => exact hh
  | exit i =>
    simp only at hh ⊢
    split
    · rename_i hi; rw [if_pos hi] at hh; exact hh
    · rename_i hi; rw [if_neg hi] at hh; exact hh
theorem wp_b {id b} (h : wp tb b st fun ex st' => match ex with
    | .normal => Q .normal st'
    | .exit i => if i = id then Q .normal st' else Q (.exit i) st'
    | .ret => Q .ret st') : wp tb (.block id b) st Q := by
  simp only [wp]
  refine wp_imp h fun ex st' hh => ?_
  cases ex <;> exact hh
/-- Something whose outcome is known, and then. -/
theorem wp_then {a b} {R : Ex → St → Prop} (h : wp tb a st R) (hr : ∀ ex st', R ex st' → match ex with
    | .normal => wp tb b st' Q
    | e => Q e st') : wp tb (.seq a b) st Q := by
  simp only [wp]
  exact wp_imp h hr
/-- One round of a loop in which nothing leaves: and on. -/
theorem wp_round {b} (h : wp tb b st fun ex st' => match ex with
    | .normal => wp tb (.loop b) st' Q
    | e => Q e st') : wp tb (.loop b) st Q := wp_loop h
/-- A slice is compared with nil: both ways come to one state. -/
theorem wp_nil2 {ops x t live y1 y2 st1 b ex st'} (h : execOps (limF tb) st ops = some st1) (he : emptyL (rd st1.T x) = some b) (hf : wp tb (.seq y1 y2) (st1.flag t false live) (fun e s => e = ex ∧ s = st'))
    (ht : b = true → wp tb (.seq y1 y2) (st1.flag t true live) (fun e s => e = ex ∧ s = st')) (hq : Q ex st') : wp tb (.nilc2 ops x t live y1 y2) st Q := by
  simp only [wp] at *
  refine ⟨st1, h, ?_⟩
  unfold nilW
  cases b with
  | false =>
    rw [he]
    obtain ⟨e, s, ⟨rfl, rfl⟩, -, h2⟩ := wp_sound (c := .seq y1 y2) (by simp only [wp]; exact hf)
    have := h2 Q hq
    simpa only [wp] using this
  | true => rw [he]; exact ⟨ex, st', ht rfl, hf, hq⟩
end

theorem frz_ints (xs : List Int) : frzLL (ints xs) = ints xs := by
  induction xs with
  | nil => rfl
  | cons x xs ih => simp only [ints, List.map_cons, frzLL, frzL, frzV] at *; rw [ih]

attribute [simp] execOps execOp1 ev rd tget viewOf binV tput IV.holds tk cv cv1 slen restrict kl kl1 klc rootOut IV.rooted killRt killBy dropSlot St.cut vcells eqCells pack sub natOf_nat bound slcV St.sview St.plc St.rcells IV.cells fol St.loadCells
  emptyL St.flag putI inOrder isSc IV.isSc IV.plain1 IV.plain IV.isOwn

@[simp] theorem ints_len (xs : List Int) : (ints xs).length = xs.length := by simp [ints]
@[simp] theorem ints_nil : ints [] = [] := rfl
@[simp] theorem ints_app (xs ys : List Int) : ints xs ++ ints ys = ints (xs ++ ys) := by simp [ints]
@[simp] theorem ints_one (xs : List Int) (n : Int) : ints xs ++ [[IV.sc (.int .i64 n)]] = ints (xs ++ [n]) := by simp [ints]
@[simp] theorem ints_set (xs : List Int) (i : Nat) (v : Int) : (ints xs).set i [IV.sc (.int .i64 v)] = ints (xs.set i v) := by
  simp [ints, List.map_set]
@[simp] theorem ints_take (xs : List Int) (n : Nat) : (ints xs).take n = ints (xs.take n) := by simp [ints, List.map_take]
@[simp] theorem ints_drop (xs : List Int) (n : Nat) : (ints xs).drop n = ints (xs.drop n) := by simp [ints, List.map_drop]
@[simp] theorem ints_emp (xs : List Int) : (ints xs).isEmpty = xs.isEmpty := by cases xs <;> rfl
@[simp] theorem ints_all1 (xs : List Int) : ((ints xs).all fun x => x.all IV.plain1) = true := by
  induction xs with
  | nil => rfl
  | cons x xs ih => simp only [ints, List.map_cons, List.all_cons] at *; rw [ih]; rfl
@[simp] theorem ints_all2 (xs : List Int) : ((ints xs).all fun x => x.all IV.isData) = true := by
  induction xs with
  | nil => rfl
  | cons x xs ih => simp only [ints, List.map_cons, List.all_cons] at *; rw [ih]; rfl
@[simp] theorem ints_noLst (xs : List Int) : noLstLL (ints xs) = true := by
  induction xs with
  | nil => rfl
  | cons x xs ih => simp only [ints, List.map_cons, noLstLL, noLstL, noLstV] at *; rw [ih]; rfl

@[simp] theorem natOf_succ {k : IntKind} {n : Nat} : natOf (.sc (.int k ((n : Int) + 1))) = some (n + 1) := natOf_nat (n := n + 1)
@[simp] theorem natOf_zero {k : IntKind} : natOf (.sc (.int k 0)) = some 0 := rfl
@[simp] theorem natOf_one {k : IntKind} : natOf (.sc (.int k 1)) = some 1 := rfl
theorem ite_ltN {α} {a b : Nat} {d : Decidable (a < b)} {x y : α} (h : a < b) : @ite α (a < b) d x y = x := if_pos h
theorem ite_leN {α} {a b : Nat} {d : Decidable (a ≤ b)} {x y : α} (h : a ≤ b) : @ite α (a ≤ b) d x y = x := if_pos h
theorem natOf_int {k : IntKind} {n : Int} (h : 0 ≤ n) : natOf (.sc (.int k n)) = some n.toNat := by simp [natOf, h]
theorem dec_lt {a b : Int} {d : Decidable (a < b)} (h : a < b) : @decide (a < b) d = true := decide_eq_true h
theorem dec_nlt {a b : Int} {d : Decidable (a < b)} (h : b ≤ a) : @decide (a < b) d = false := decide_eq_false (by omega)
theorem dec_le {a b : Int} {d : Decidable (a ≤ b)} (h : a ≤ b) : @decide (a ≤ b) d = true := decide_eq_true h
theorem dec_nle {a b : Int} {d : Decidable (a ≤ b)} (h : b < a) : @decide (a ≤ b) d = false := decide_eq_false (by omega)
/-- The state behind a call that has answered. -/
@[simp] theorem limF_ev {tb : Tbl} {f lent args M r} (h : Ev tb f lent args M r) : limF tb f lent args M = some r := ev_lim h

theorem wrapN {n : Nat} (h : n < 9223372036854775808) : IntKind.i64.wrap (n : Int) = (n : Int) := wrap64 (by omega) (by omega)
theorem wrapS {n : Nat} (h : n + 1 < 9223372036854775808) : IntKind.i64.wrap ((n : Int) + 1) = ((n + 1 : Nat) : Int) := by
  rw [wrap64 (by omega) (by omega)]; rfl

attribute [simp] St.fillElems elemsOf St.news St.append IV.wcells lim fillCells IV.okPart tkKill St.storeCells St.callWith St.args St.args1 St.arg1 ldSlot St.args2 St.arg2 St.seen St.seens St.lentBack IV.free IV.free1 lents isLd noLstV noLstL noLstLL frzV frzL frzLL frz_ints pureRun scInt bytesOf IV.isBptr elemsOf
@[simp] theorem getLast_ca {α} (a x : α) (m : List α) : (a :: (m ++ [x])).getLast? = some x := by
  rw [← List.cons_append, List.getLast?_append]; rfl
@[simp] theorem dropLast_ca {α} (a x : α) (m : List α) : (a :: (m ++ [x])).dropLast = a :: m := by
  rw [← List.cons_append, List.dropLast_concat]
@[simp] theorem unary_not (b : Bool) : Op.unary .not (.bool b) = .pure (.bool !b) := rfl
attribute [simp] killBoxes IV.rootB
attribute [simp] finish St.retvs St.retv packRes St.backs St.leave St.absorb St.absorbs St.absorbsK killOf IV.lvl okRet IV.okLvl IV.isData St.setPlc setCellOf fset splice St.box St.setBox

end Go.Idl

