/- Part 2 of a proof by an ideal interpreter of the code: its definitions and lemmas. Conditions: none. -/
import Derived.Below
import Derived.LoopN
import Derived.Orders
import Derived.Scope
import Derived.Test.YtlbldcibnhgekaaA1
set_option linter.all false
set_option linter.unusedVariables false
set_option linter.unusedSimpArgs false
/- One operation, checked by program, sound: the rest. Conditions: none (lemmas). -/
namespace Go.Idl
open Go

section
variable {cx : Cx} {w : World} {F : Nat → Prop} {ρ : Rho} {fp : Fp} {X : List Nat} {st st' : St} {a : Act} {o : Oper} {v : IV} {cf : CF}

theorem res_extr (h : Rel cx w F ρ fp X st (regs a)) {x : Opd} {i : Nat} (hb : bOp cx o (.extr x i) = true) (hev : ev cf st (.extr x i) = some (v, st')) : OpOut cx w F ρ fp X st a o v st' := by
  simp only [bOp] at hb
  split at hb
  · simp only [Bool.and_eq_true, beq_iff_eq] at hb
    obtain ⟨rfl, h1⟩ := hb
    exact out_extr h (bOpd_ok h1) ‹_› hev
  · cases hb

theorem res_alloc (h : Rel cx w F ρ fp X st (regs a)) {z : List Value} (hb : bOp cx o (.alloc z) = true) (hev : ev cf st (.alloc z) = some (v, st')) : OpOut cx w F ρ fp X st a o v st' := by
  simp only [bOp] at hb
  split at hb
  · exact out_alloc h (bZero_ok hb) ‹_› hev
  · cases hb

theorem res_box (h : Rel cx w F ρ fp X st (regs a)) {x : Opd} (hb : bOp cx o (.box x) = true) (hev : ev cf st (.box x) = some (v, st')) : OpOut cx w F ρ fp X st a o v st' := by
  simp only [bOp] at hb
  split at hb
  · exact out_box h (bOpd_ok hb) ‹_› hev
  · cases hb

theorem res_build (h : Rel cx w F ρ fp X st (regs a)) {z : List Value} {parts : List (Nat × Nat × Opd)} (hb : bOp cx o (.build z parts) = true) (hev : ev cf st (.build z parts) = some (v, st')) : OpOut cx w F ρ fp X st a o v st' := by
  simp only [bOp] at hb
  split at hb
  · unfold bBuild at hb
    simp only [Bool.and_eq_true] at hb
    obtain ⟨h0, hb⟩ := hb
    split at hb
    · split at hb
      · exact out_build h (bZero_ok h0) ‹_› ‹_› (bParts_ok hb) ‹_› hev
      · cases hb
    · cases hb
  · cases hb

theorem res_bsl (h : Rel cx w F ρ fp X st (regs a)) {e : Nat} {z : List Value} {len : Nat} {parts : List (Nat × Opd)} (hb : bOp cx o (.bsl e z len parts) = true) (hev : ev cf st (.bsl e z len parts) = some (v, st')) :
    OpOut cx w F ρ fp X st a o v st' := by
  simp only [bOp] at hb
  split at hb
  · simp only [Bool.and_eq_true, beq_iff_eq] at hb
    obtain ⟨rfl, ht⟩ := hb
    obtain ⟨el, hel, hk⟩ := isSliceOf_ok ht
    simp only [Bool.and_eq_true, beq_iff_eq, decide_eq_true_eq] at hk
    obtain ⟨⟨⟨⟨h1, h2⟩, h3⟩, h4⟩, h5⟩ := hk
    exact out_bsl h (bZero_ok h1) (bSize_ok h2) h3 hel h4 (bParts1_ok h5) ‹_› hev
  · cases hb

theorem res_mksl (h : Rel cx w F ρ fp X st (regs a)) {e : Nat} {z : List Value} {l c : Opd} (hb : bOp cx o (.mksl e z l c) = true) (hev : ev cf st (.mksl e z l c) = some (v, st')) : OpOut cx w F ρ fp X st a o v st' := by
  simp only [bOp] at hb
  split at hb
  · simp only [Bool.and_eq_true] at hb
    obtain ⟨⟨ht, hl⟩, hc⟩ := hb
    obtain ⟨el, hel, hk⟩ := isSliceOf_ok ht
    simp only [Bool.and_eq_true, beq_iff_eq] at hk
    obtain ⟨⟨⟨h1, h2⟩, h3⟩, h4⟩ := hk
    split at h4
    · simp only [decide_eq_true_eq] at h4
      exact out_mksl h (bZero_ok h1) (bSize_ok h2) h3 hel ‹_› h4 (bOpd_ok hl) (bOpd_ok hc) ‹_› hev
    · cases h4
  · cases hb

theorem res_store (h : Rel cx w F ρ fp X st (regs a)) {sz : Nat} {ad x : Opd} (hb : bOp cx o (.store sz ad x) = true) (hev : ev cf st (.store sz ad x) = some (v, st')) : OpOut cx w F ρ fp X st a o v st' := by
  simp only [bOp] at hb
  split at hb
  · simp only [Bool.and_eq_true] at hb
    exact out_store h (bSize_ok hb.1.1) (bOpd_ok hb.1.2) (bOpd_ok hb.2) ‹_› hev
  · cases hb

theorem res_storef (h : Rel cx w F ρ fp X st (regs a)) {sz : Nat} {ad x : Opd} (hb : bOp cx o (.storef sz ad x) = true) (hev : ev cf st (.storef sz ad x) = some (v, st')) : OpOut cx w F ρ fp X st a o v st' := by
  simp only [bOp] at hb
  split at hb
  · simp only [Bool.and_eq_true] at hb
    exact out_storef h (bSize_ok hb.1.1) (bOpd_ok hb.1.2) (bOpd_ok hb.2) ‹_› hev
  · cases hb

theorem res_clr (h : Rel cx w F ρ fp X st (regs a)) {x : Opd} {z : List Value} (hb : bOp cx o (.clr x z) = true) (hev : ev cf st (.clr x z) = some (v, st')) : OpOut cx w F ρ fp X st a o v st' := by
  simp only [bOp] at hb
  split at hb
  · simp only [Bool.and_eq_true] at hb
    obtain ⟨ht, h1⟩ := hb
    obtain ⟨el, hel, hk⟩ := isSliceOf_ok ht
    exact out_clr h (bZero_ok hk) hel (bOpd_ok h1) ‹_› hev
  · cases hb

theorem res_app (h : Rel cx w F ρ fp X st (regs a)) {e : Nat} {x y : Opd} (hb : bOp cx o (.app e x y) = true) (hev : ev cf st (.app e x y) = some (v, st')) : OpOut cx w F ρ fp X st a o v st' := by
  simp only [bOp] at hb
  split at hb
  · simp only [Bool.and_eq_true] at hb
    obtain ⟨⟨⟨ht, ht'⟩, h1⟩, h2⟩ := hb
    obtain ⟨el, hel, hk⟩ := isSliceOf_ok ht
    obtain ⟨el', hel', -⟩ := isSliceOf_ok ht'
    split at hk
    · rename_i i hi
      simp only [Bool.and_eq_true, beq_iff_eq, decide_eq_true_eq] at hk
      obtain ⟨⟨h3, h4⟩, h5⟩ := hk
      split at h5
      · rename_i z hz
        simp only [beq_iff_eq] at h5
        exact out_app (ty := 0) h ⟨hel, ⟨_, hel'⟩, hi, hz, h4, h5⟩ h3 (bOpd_ok h1) (bOpd_ok h2) ‹_› hev
      · cases h5
    · cases hk
  · cases hb

theorem res_call (hcf : CallOK cx cf) (h : Rel cx w F ρ fp X st (regs a)) {f : Lab} {args : List (Mode × Opd)} {p : Bool} (hb : bOp cx o (.call f args p) = true) (hev : ev cf st (.call f args p) = some (v, st')) :
    CallOut cx w F ρ fp X st a o v st' := by
  simp only [bOp] at hb
  split at hb
  · rename_i c ho
    split at hb
    · rename_i g hc
      simp only [Bool.and_eq_true, beq_iff_eq] at hb
      obtain ⟨hg, ha⟩ := hb
      subst hg
      simp only [ev] at hev
      have hy : a.eval (.func (cx.fid f)) = .func (.func (cx.fid f)) #[] #[] := rfl
      cases p with
      | true => exact out_call_pure hcf h (bArgs_ok ha) ho hc rfl hy hev
      | false => exact out_call_box hcf h (cvs := []) (bArgs_ok ha) ho hc rfl hy .nil hev
    · cases hb
  · cases hb

theorem res_callv (hcf : CallOK cx cf) (h : Rel cx w F ρ fp X st (regs a)) {f : Opd} {args : List (Mode × Opd)} (hb : bOp cx o (.callv f args) = true) (hev : ev cf st (.callv f args) = some (v, st')) :
    CallOut cx w F ρ fp X st a o v st' := by
  simp only [bOp] at hb
  split at hb
  · rename_i c ho
    split at hb
    · rename_i y hc
      simp only [Bool.and_eq_true] at hb
      obtain ⟨hy, ha⟩ := hb
      simp only [ev] at hev
      split at hev
      · rename_i g caps hX
        have hr := rd_rel h (bOpd_ok hy)
        rw [hX] at hr
        rcases hr with ⟨⟨cvs, hv, hcaps⟩, _⟩ | hr
        · exact out_call_box hcf h (bArgs_ok ha) ho hc rfl hv hcaps hev
        · cases hr
      · cases hev
    · cases hb
  · cases hb

/-- Every operation. -/
theorem op_res (hcf : CallOK cx cf) (h : Rel cx w F ρ fp X st (regs a)) {k : K} (hb : bOp cx o k = true) (hev : ev cf st k = some (v, st')) : OpRes cx w F ρ fp X st a o v st' k.cls := by
  cases k with
  | mv x => exact res_mv h hb hev
  | nilo e => exact res_nilo h hb hev
  | asg x => exact .inl (res_asg h hb hev)
  | asgm x => exact .inl (res_asgm h hb hev)
  | clr x z => exact .inl (res_clr h hb hev)
  | pick c x y => exact res_pick h hb hev
  | alloc z => exact .inl (res_alloc h hb hev)
  | box x => exact .inl (res_box h hb hev)
  | build z ps => exact .inl (res_build h hb hev)
  | bsl e z n ps => exact .inl (res_bsl h hb hev)
  | load ag sz x => exact res_load h hb hev
  | store sz ad x => exact .inl (res_store h hb hev)
  | storef sz ad x => exact .inl (res_storef h hb hev)
  | nilck x => exact res_nilck h hb hev
  | bin op x y => exact res_bin h hb hev
  | eqa neg n x y => exact res_eqa h hb hev
  | eqb neg x y => exact res_eqb h hb hev
  | unop op x => exact res_unop h hb hev
  | conv k x => exact res_conv h hb hev
  | mkfn f caps => exact res_mkfn h hb hev
  | mksl e z l c => exact .inl (res_mksl h hb hev)
  | slc e x lo hi mx => exact res_slc h hb hev
  | slcs x lo hi => exact res_slcs h hb hev
  | fadr off x => exact res_fadr h hb hev
  | fld ag off sz x => exact res_fld h hb hev
  | iadr e x i => exact res_iadr h hb hev
  | idxs x i => exact res_idxs h hb hev
  | extr x i => exact .inl (res_extr h hb hev)
  | call f args p => exact .inr (res_call hcf h hb hev)
  | callq f args => exact .inr (res_call (p := true) hcf h hb hev)
  | callv f args => exact .inr (res_callv hcf h hb hev)
  | len x => exact res_len h hb hev
  | lens x => exact res_lens h hb hev
  | app e x y => exact .inl (res_app h hb hev)
  | minmax mn x y => exact res_minmax h hb hev
  | halt => simp [ev] at hev

end
end Go.Idl

/- Orders of a region: swaps. Conditions: none (definitions and lemmas). -/
namespace Go.Idl
open Go

def QF : Exit → Act → World → Prop := fun _ _ _ => False

/-- One value at this world. -/
def YieldsAt (P : Program) (ops : Array Oper) (o : Oper) (v : Value) (a : Act) (w : World) : Prop :=
  (Region.wanted o (yielded ops a.tmps) = true ∧ (execOp a.eval o).run P w = .ok (.value v) w) ∨ (Region.wanted o (yielded ops a.tmps) = false ∧ v = undef)

/-- A walk along a list of operations: each that only computes, or only reads, yields; the others step. -/
def wpY (P : Program) (ops : Array Oper) (cls : Nat → Cls) (K : Act → World → Prop) : List Nat → Act → World → Prop
  | [], a, w => K a w
  | i :: rest, a, w => ∃ o, ops[i]? = some o ∧ match cls i with
    | .reg => ∃ v, Yields P ops o v a ∧ wpY P ops cls K rest (a.put o.dst v) w
    | .ld => ∃ v, YieldsAt P ops o v a w ∧ wpY P ops cls K rest (a.put o.dst v) w
    | .oth => wpOp P ops QF i (wpY P ops cls K rest) a w

section
variable {P : Program} {ops : Array Oper} {cls : Nat → Cls} {K K' : Act → World → Prop} {a : Act} {w : World}

theorem YieldsAt.wpOp {Q : Exit → Act → World → Prop} {i : Nat} {o : Oper} {v : Value} (hi : ops[i]? = some o) (hy : YieldsAt P ops o v a w) (h : K (a.put o.dst v) w) : wpOp P ops Q i K a w := by
  unfold Go.wpOp
  simp only [hi]
  rcases hy with ⟨hw, hv⟩ | ⟨hw, rfl⟩
  · simp only [hw, if_true, Oper.wp, hv, Oper.upon]; exact .inl h
  · simp only [hw, Bool.false_eq_true, if_false]; exact h

theorem YieldsAt.of_same {o : Oper} {v : Value} {a' : Act} (hy : YieldsAt P ops o v a w) (he : execOp a'.eval o = execOp a.eval o)
    (hw : Region.wanted o (yielded ops a'.tmps) = Region.wanted o (yielded ops a.tmps)) : YieldsAt P ops o v a' w := by
  unfold YieldsAt at *
  rw [he, hw]; exact hy

theorem _root_.Go.Yields.atW {o : Oper} {v : Value} (hy : Yields P ops o v a) (w : World) : YieldsAt P ops o v a w := by
  rcases hy with ⟨h, hv⟩ | h
  · exact .inl ⟨h, hv w⟩
  · exact .inr h

theorem YieldsAt.det {o : Oper} {v v' : Value} (hy : YieldsAt P ops o v a w) (hy' : YieldsAt P ops o v' a w) : v = v' := by
  rcases hy with ⟨h, hv⟩ | ⟨h, rfl⟩ <;> rcases hy' with ⟨h', hv'⟩ | ⟨h', rfl⟩
  · rw [hv] at hv'; simpa using hv'
  · rw [h] at h'; cases h'
  · rw [h] at h'; cases h'
  · rfl

theorem wpOp_QF {Q : Exit → Act → World → Prop} {i : Nat} (h : wpOp P ops QF i K a w) : wpOp P ops Q i K a w := by
  unfold wpOp at *
  split at h
  · exact h
  · split at h
    · rename_i o ho hw
      simp only [hw, if_true]
      rcases h with h | ⟨_, a0, w0, h⟩
      · left
        unfold Oper.wp at *
        generalize (execOp a.eval o).run P w = r at *
        cases r with
        | ok n w' =>
          cases n <;> simp only [Oper.upon] at h ⊢ <;> first
            | exact h
            | (refine Calls.mono h fun e w'' he => ?_
               cases e with
               | returned v => exact he
               | panicked c => exact he.elim
               | outgrown => obtain ⟨_, _, he⟩ := he; exact he.elim)
        | halt x w' => cases x <;> simp only [Oper.upon] at h ⊢ <;> exact h.elim
      · exact h.elim
    · rename_i o ho hw
      simp only [hw, Bool.false_eq_true, if_false]
      exact h

theorem wpY_mono {l : List Nat} (hK : ∀ a w, K a w → K' a w) : ∀ {a : Act} {w : World}, wpY P ops cls K l a w → wpY P ops cls K' l a w := by
  induction l with
  | nil => intro a w h; exact hK a w h
  | cons i l ih =>
    intro a w h
    obtain ⟨o, ho, h⟩ := h
    refine ⟨o, ho, ?_⟩
    split at h
    · obtain ⟨v, hy, h⟩ := h; exact ⟨v, hy, ih h⟩
    · obtain ⟨v, hy, h⟩ := h; exact ⟨v, hy, ih h⟩
    · exact wpOp_mono (fun _ _ => ih) h

theorem wpY_tail {i : Nat} {l l' : List Nat} (hK : ∀ a w, wpY P ops cls K l a w → wpY P ops cls K l' a w) (h : wpY P ops cls K (i :: l) a w) : wpY P ops cls K (i :: l') a w := by
  obtain ⟨o, ho, h⟩ := h
  refine ⟨o, ho, ?_⟩
  split at h
  · obtain ⟨v, hy, h⟩ := h; exact ⟨v, hy, hK _ _ h⟩
  · obtain ⟨v, hy, h⟩ := h; exact ⟨v, hy, hK _ _ h⟩
  · exact wpOp_mono hK h

theorem wpY_ops {Q : Exit → Act → World → Prop} {l : List Nat} (hK : ∀ a w, K a w → Q .normal a w) : ∀ {a : Act} {w : World}, wpY P ops cls K l a w → wpOps P ops Q l a w := by
  induction l with
  | nil => intro a w h; exact hK a w h
  | cons i l ih =>
    intro a w h
    obtain ⟨o, ho, h⟩ := h
    rw [wpOps_cons]
    split at h
    · obtain ⟨v, hy, h⟩ := h; exact hy.wpOp ho (ih h)
    · obtain ⟨v, hy, h⟩ := h; exact hy.wpOp ho (ih h)
    · exact wpOp_QF (wpOp_mono (fun _ _ => ih) h)

def isSel : Op → Bool
  | .select .. => true
  | _ => false
theorem isSel_ne {o : Oper} (h : isSel o.op = false) : ∀ cs b, o.op ≠ .select cs b := fun cs b hh => by rw [hh] at h; cases h

/-- What an operation leaves of the temporaries that another one looks at. -/
theorem Apart.put {x y : Oper} (h : x.apart ops y = true) (hs : isSel y.op = false) (a : Act) (v : Value) :
    execOp (a.put x.dst v).eval y = execOp a.eval y ∧ Region.wanted y (yielded ops (a.put x.dst v).tmps) = Region.wanted y (yielded ops a.tmps) := by
  obtain ⟨h1, h2, h3⟩ := Oper.apart_spec h
  exact ⟨execOp_put y (isSel_ne hs) a x.dst v h1, wanted_put y a x.dst v h1⟩

theorem apart_symm {x y : Oper} (h : x.apart ops y = true) : y.apart ops x = true := by
  obtain ⟨h1, h2, h3⟩ := Oper.apart_spec h
  unfold Oper.apart
  simp only [Bool.and_eq_true]
  constructor
  · cases hd : y.dst with
    | none => rfl
    | some d =>
      have a1 := h3 d hd
      have a2 : x.dst ≠ some d := fun hx => h2 d hx hd
      simp only [Bool.and_eq_true, Bool.not_eq_true', bne_iff_ne, ne_eq]
      exact ⟨by simpa using a1, a2⟩
  · cases hd : x.dst with
    | none => rfl
    | some d => simpa using h1 d hd

/-- A step of the second one, backwards over the first. -/
theorem wpOp_back {i : Nat} {x y : Oper} (hi : ops[i]? = some x) (hap : x.apart ops y = true) (hsx : isSel x.op = false) (hsy : isSel y.op = false)
    (h : wpOp P ops QF i (fun a' w' => ∃ v, Yields P ops y v a' ∧ K (a'.put y.dst v) w') a w) : ∃ v, Yields P ops y v a ∧ wpOp P ops QF i K (a.put y.dst v) w := by
  obtain ⟨h1, h2, h3⟩ := Oper.apart_spec hap
  have hap' := apart_symm hap
  have back : ∀ (a : Act) u v, Yields P ops y v (a.put x.dst u) → Yields P ops y v a := fun a u v hy =>
    let ⟨e1, e2⟩ := Apart.put hap hsy a u
    hy.of_same e1.symm e2.symm
  have det : ∀ {a : Act} {v v' : Value}, Yields P ops y v a → Yields P ops y v' a → v = v' := fun hy hy' => (hy.atW w).det (hy'.atW w)
  have keepD : ∀ {a : Act} {d v}, Yields P ops y v { a with defers := d :: a.defers } → Yields P ops y v a := fun hy => hy.of_same rfl rfl
  have step : ∀ {u w'}, (∃ v, Yields P ops y v (a.put x.dst u) ∧ K ((a.put x.dst u).put y.dst v) w') → ∃ v, Yields P ops y v a ∧ K ((a.put y.dst v).put x.dst u) w' := by
    rintro u w' ⟨v, hy, hk⟩
    refine ⟨v, back a u v hy, ?_⟩
    rw [← Act.put_comm a u v h2]; exact hk
  unfold wpOp at h
  simp only [hi] at h
  obtain ⟨e1, e2⟩ : (∀ v, execOp (a.put y.dst v).eval x = execOp a.eval x) ∧ (∀ v, Region.wanted x (yielded ops (a.put y.dst v).tmps) = Region.wanted x (yielded ops a.tmps)) :=
    ⟨fun v => (Apart.put hap' hsx a v).1, fun v => (Apart.put hap' hsx a v).2⟩
  split at h
  · rename_i hw
    rcases h with h | ⟨_, a0, w0, h⟩
    rotate_left
    · exact h.elim
    unfold Oper.wp at h
    have fin : ∀ v, (x.upon P (a.put y.dst v) K QF ((execOp a.eval x).run P w)) → wpOp P ops QF i K (a.put y.dst v) w := fun v hh => by
      unfold wpOp
      simp only [hi, e2, hw, if_true]
      exact .inl (by unfold Oper.wp; rw [e1]; exact hh)
    generalize hr : (execOp a.eval x).run P w = r at *
    cases r with
    | ok n w' =>
      cases n <;> simp only [Oper.upon] at h
      case value u =>
        obtain ⟨v, hy, hk⟩ := step h
        exact ⟨v, hy, fin v (by simp only [Oper.upon]; exact hk)⟩
      case skip =>
        obtain ⟨v, hy, hk⟩ := step h
        exact ⟨v, hy, fin v (by simp only [Oper.upon]; exact hk)⟩
      case defer d =>
        obtain ⟨v, hy, hk⟩ := h
        have hy' : Yields P ops y v a := back a undef v (by rw [← Act.put_defers] at hy; exact keepD hy)
        refine ⟨v, hy', fin v ?_⟩
        simp only [Oper.upon]
        rw [Act.put_defers, ← Act.put_comm _ undef v h2]
        exact hk
      case enter f args =>
        obtain ⟨e, w1, fr, he, -⟩ := h []
        cases e with
        | panicked c => exact he.elim
        | outgrown => obtain ⟨_, _, he⟩ := he; exact he.elim
        | returned u =>
          obtain ⟨v, hy, hk⟩ := step he
          refine ⟨v, hy, fin v ?_⟩
          simp only [Oper.upon]
          refine Calls.mono h fun e w2 he2 => ?_
          cases e with
          | panicked c => exact he2.elim
          | outgrown => obtain ⟨_, _, he2⟩ := he2; exact he2.elim
          | returned u2 =>
            obtain ⟨v2, hy2, hk2⟩ := step he2
            have := det hy hy2
            subst this; exact hk2
      case row row args =>
        obtain ⟨u, w1, he, -⟩ := h default []
        obtain ⟨v, hy, hk⟩ := step he
        refine ⟨v, hy, fin v ?_⟩
        simp only [Oper.upon]
        refine Rows.mono h fun u2 w2 he2 => ?_
        obtain ⟨v2, hy2, hk2⟩ := step he2
        have := det hy hy2
        subst this; exact hk2
    | halt z w' => cases z <;> simp only [Oper.upon] at h <;> exact h.elim
  · rename_i hw
    obtain ⟨v, hy, hk⟩ := step h
    refine ⟨v, hy, ?_⟩
    unfold wpOp
    simp only [hi, e2, hw, Bool.false_eq_true, if_false]
    exact hk

/-- Two operations that may stand in either order. -/
def indepB (ops : Array Oper) (cls : Nat → Cls) (i j : Nat) : Bool := match ops[i]?, ops[j]? with
  | some x, some y => x.apart ops y && !isSel x.op && !isSel y.op && (decide (cls i = .reg) || decide (cls j = .reg) || (decide (cls i = .ld) && decide (cls j = .ld)))
  | _, _ => false

theorem indepB_symm {i j : Nat} (h : indepB ops cls i j = true) : indepB ops cls j i = true := by
  unfold indepB at *
  split at h
  · rename_i x y hx hy
    simp only [Bool.and_eq_true, Bool.or_eq_true, decide_eq_true_eq] at h ⊢
    obtain ⟨⟨⟨h1, h2⟩, h3⟩, h4⟩ := h
    simp only [hx, hy, Bool.and_eq_true, Bool.or_eq_true, decide_eq_true_eq]
    refine ⟨⟨⟨apart_symm h1, h3⟩, h2⟩, ?_⟩
    rcases h4 with (h4 | h4) | h4
    · exact .inl (.inr h4)
    · exact .inl (.inl h4)
    · exact .inr ⟨h4.2, h4.1⟩
  · cases h

theorem wpY_swap {i j : Nat} {l : List Nat} (hd : indepB ops cls i j = true) (h : wpY P ops cls K (i :: j :: l) a w) : wpY P ops cls K (j :: i :: l) a w := by
  unfold indepB at hd
  split at hd
  rotate_left
  · cases hd
  rename_i x y hx hy
  simp only [Bool.and_eq_true, Bool.or_eq_true, decide_eq_true_eq, Bool.not_eq_true'] at hd
  obtain ⟨⟨⟨hap, hsx⟩, hsy⟩, hc⟩ := hd
  have hap' := apart_symm hap
  obtain ⟨h1, h2, h3⟩ := Oper.apart_spec hap
  simp only [wpY, hx, hy, Option.some.injEq, exists_eq_left'] at h ⊢
  -- both yield a value
  have both : ∀ {vi vj}, YieldsAt P ops x vi a w → YieldsAt P ops y vj (a.put x.dst vi) w → YieldsAt P ops y vj a w ∧ YieldsAt P ops x vi (a.put y.dst vj) w := by
    intro vi vj hi hj
    obtain ⟨e1, e2⟩ := Apart.put hap hsy a vi
    obtain ⟨e3, e4⟩ := Apart.put hap' hsx a vj
    exact ⟨hj.of_same e1.symm e2.symm, hi.of_same e3 e4⟩
  have bothY : ∀ {vi vj}, Yields P ops y vj (a.put x.dst vi) → Yields P ops y vj a := by
    intro vi vj hj
    obtain ⟨e1, e2⟩ := Apart.put hap hsy a vi
    exact hj.of_same e1.symm e2.symm
  have bothX : ∀ {vi vj}, Yields P ops x vi a → Yields P ops x vi (a.put y.dst vj) := by
    intro vi vj hi
    obtain ⟨e3, e4⟩ := Apart.put hap' hsx a vj
    exact hi.of_same e3 e4
  cases hci : cls i <;> cases hcj : cls j <;> simp only [hci, hcj] at h ⊢
  · obtain ⟨vi, hi, vj, hj, hk⟩ := h
    exact ⟨vj, bothY hj, vi, bothX hi, by rw [← Act.put_comm a vi vj h2]; exact hk⟩
  · obtain ⟨vi, hi, vj, hj, hk⟩ := h
    exact ⟨vj, (both (hi.atW w) hj).1, vi, bothX hi, by rw [← Act.put_comm a vi vj h2]; exact hk⟩
  · obtain ⟨vi, hi, hk⟩ := h
    have := wpOp_put hy hap (isSel_ne hsx) (isSel_ne hsy) (fun _ _ _ hh => hh) hi hk
    exact wpOp_mono (fun a' w' hh => ⟨vi, hh⟩) this
  · obtain ⟨vi, hi, vj, hj, hk⟩ := h
    exact ⟨vj, bothY hj, vi, (both hi (hj.atW w)).2, by rw [← Act.put_comm a vi vj h2]; exact hk⟩
  · obtain ⟨vi, hi, vj, hj, hk⟩ := h
    exact ⟨vj, (both hi hj).1, vi, (both hi hj).2, by rw [← Act.put_comm a vi vj h2]; exact hk⟩
  · simp [hci, hcj] at hc
  · obtain ⟨v, hy', hh⟩ := wpOp_back hx hap hsx hsy h
    exact ⟨v, hy', hh⟩
  · simp [hci, hcj] at hc
  · simp [hci, hcj] at hc

/-- One operation is moved ahead of others that it does not hang on. -/
theorem wpY_front {x : Nat} {l1 l2 : List Nat} : ∀ {a : Act} {w : World}, (∀ y ∈ l1, indepB ops cls y x = true) → wpY P ops cls K (l1 ++ x :: l2) a w → wpY P ops cls K (x :: (l1 ++ l2)) a w := by
  induction l1 with
  | nil => intro a w _ h; exact h
  | cons y l1 ih =>
    intro a w hall h
    exact wpY_swap (hall y (by simp)) (wpY_tail (fun a w hh => ih (fun z hz => hall z (by simp [hz])) hh) h)

/-- Two orders in which whatever hangs on one another stands alike. -/
theorem wpY_perm : ∀ {σ τ : List Nat} {a : Act} {w : World}, σ.Perm τ → τ.Nodup → (∀ i j, indepB ops cls i j = false → [i, j].Sublist τ → [i, j].Sublist σ) → wpY P ops cls K τ a w → wpY P ops cls K σ a w
  | [], τ, a, w, hp, _, _, h => by
    have : τ = [] := hp.symm.eq_nil
    subst this; exact h
  | x :: σ, τ, a, w, hp, hn, hd, h => by
    have hx : x ∈ τ := hp.subset (by simp)
    obtain ⟨l1, l2, rfl⟩ := List.append_of_mem hx
    have hσn : (x :: σ).Nodup := hp.nodup_iff.2 hn
    have hxσ : x ∉ σ := (List.nodup_cons.1 hσn).1
    have hp' : σ.Perm (l1 ++ l2) := (hp.trans List.perm_middle).cons_inv
    have hsub : (l1 ++ l2).Sublist (l1 ++ x :: l2) := List.Sublist.append (List.Sublist.refl _) (List.sublist_cons_self _ _)
    have hn' : (l1 ++ l2).Nodup := List.Sublist.nodup hsub hn
    refine wpY_tail (l := l1 ++ l2) (fun a w hh => wpY_perm hp' hn' (fun i j hi hs => ?_) hh) (wpY_front (fun y hy => ?_) h)
    · have := hd i j hi (hs.trans hsub)
      cases this with
      | cons _ hh => exact hh
      | cons_cons _ hh =>
        exfalso
        have : x ∈ l1 ++ l2 := hs.subset (by simp)
        exact hxσ (hp'.symm.subset this)
    · cases hind : indepB ops cls y x with
      | true => rfl
      | false =>
        exfalso
        have hs : [y, x].Sublist (l1 ++ x :: l2) := by
          have h1 : [y].Sublist l1 := List.singleton_sublist.2 hy
          have h2 : [x].Sublist (x :: l2) := List.singleton_sublist.2 (by simp)
          exact h1.append h2
        have := hd y x hind hs
        cases this with
        | cons _ hh => exact hxσ (hh.subset (by simp))
        | cons_cons _ hh => exact hxσ (hh.subset (by simp))

end
end Go.Idl

/- Orders of a region: what every drawn order keeps, and a check that some given orders stand for all. Conditions: none (definitions and lemmas). -/
namespace Go.Idl
open Go

def unl (n : Nat) (listed : Array Bool) : List Nat := (List.range n).filter fun i => !listed.getD i true

theorem mem_unl {n : Nat} {listed : Array Bool} {i : Nat} : i ∈ unl n listed ↔ i < n ∧ listed.getD i true = false := by
  simp [unl]

theorem getD_false_true {listed : Array Bool} {i : Nat} (h : i < listed.size) : listed.getD i true = listed.getD i false := by
  simp [Array.getD_eq_getD_getElem?, h]

section
variable {md : Region.Mode} {ops : Array Oper}

/-- Every edge leads back. -/
def backB (md : Region.Mode) (ops : Array Oper) : Bool := ops.toList.zipIdx.all fun (o, i) => o.after.toList.all fun e => !Region.binds md e || decide (e.on < i)

theorem backB_spec (h : backB md ops = true) {i : Nat} {o : Oper} (ho : ops[i]? = some o) {e : Edge} (he : e ∈ o.after) (hb : Region.binds md e = true) : e.on < i := by
  unfold backB at h
  rw [List.all_eq_true] at h
  have := h (o, i) (by
    rw [List.mem_zipIdx_iff_getElem?]
    simpa using ho)
  simp only [List.all_eq_true] at this
  have := this e (by simpa using he)
  simpa [hb] using this

theorem ready_some (h : backB md ops = true) {listed : Array Bool} (hs : listed.size = ops.size) (hne : unl ops.size listed ≠ []) : Region.ready md ops listed ≠ [] := by
  -- the least one that is not listed
  obtain ⟨i, hi⟩ := List.exists_mem_of_ne_nil _ hne
  have : ∃ m, m ∈ unl ops.size listed ∧ ∀ j, j < m → j ∉ unl ops.size listed := by
    induction i using Nat.strongRecOn with
    | _ i ih =>
      by_cases hex : ∃ j, j < i ∧ j ∈ unl ops.size listed
      · obtain ⟨j, hj, hju⟩ := hex
        exact ih j hj hju
      · exact ⟨i, hi, fun j hj hju => hex ⟨j, hj, hju⟩⟩
  obtain ⟨m, hm, hmin⟩ := this
  obtain ⟨hmlt, hmf⟩ := mem_unl.1 hm
  have hmem : m ∈ Region.ready md ops listed := by
    rw [mem_ready]
    refine ⟨hmf, ops[m], by simp [hmlt], fun e he hb => ?_⟩
    have hlt := backB_spec h (i := m) (o := ops[m]) (by simp [hmlt]) he hb
    have hn := hmin _ hlt
    rw [mem_unl] at hn
    have hlt' : e.on < ops.size := by omega
    rw [← getD_false_true (by omega)]
    cases hv : listed.getD e.on true with
    | true => rfl
    | false => exact absurd ⟨hlt', hv⟩ hn
  intro h0
  rw [h0] at hmem
  cases hmem

theorem unl_set {n i : Nat} {listed : Array Bool} (hi : i < listed.size) : unl n (listed.setIfInBounds i true) = (unl n listed).filter (· != i) := by
  unfold unl
  rw [List.filter_filter]
  apply List.filter_congr
  intro j _
  by_cases hj : j = i
  · subst hj; simp [Array.getD_eq_getD_getElem?, hi]
  · have : i ≠ j := fun h => hj h.symm
    simp [Array.getD_eq_getD_getElem?, Array.getElem?_setIfInBounds_ne this, hj]

theorem go_eq (fuel t : Nat) (listed : Array Bool) : Region.linearise.go md ops (fuel + 1) t listed [] = match (Region.ready md ops listed)[t % (Region.ready md ops listed).length]? with
    | some i => i :: Region.linearise.go md ops fuel (t / (Region.ready md ops listed).length) (listed.setIfInBounds i true) []
    | none => [] := by
  change (match (Region.ready md ops listed)[t % (Region.ready md ops listed).length]? with
      | some i => Region.linearise.go md ops fuel (t / (Region.ready md ops listed).length) (listed.setIfInBounds i true) [i]
      | none => [].reverse) = _
  split
  · rw [linearise_go_acc]; rfl
  · rfl

/-- What a drawn order is. -/
theorem go_spec (hb : backB md ops = true) : ∀ (fuel t : Nat) (listed : Array Bool), listed.size = ops.size → (unl ops.size listed).length ≤ fuel →
    (Region.linearise.go md ops fuel t listed []).Nodup ∧ (∀ i, i ∈ Region.linearise.go md ops fuel t listed [] ↔ i ∈ unl ops.size listed) ∧
    ∀ i o e, i ∈ Region.linearise.go md ops fuel t listed [] → ops[i]? = some o → e ∈ o.after → Region.binds md e = true → listed.getD e.on false = true ∨ [e.on, i].Sublist (Region.linearise.go md ops fuel t listed []) := by
  intro fuel
  induction fuel with
  | zero =>
    intro t listed hs hl
    have h0 : unl ops.size listed = [] := List.eq_nil_of_length_eq_zero (by omega)
    have : Region.linearise.go md ops 0 t listed [] = [] := rfl
    rw [this, h0]
    exact ⟨List.nodup_nil, by simp, fun i o e hi => by cases hi⟩
  | succ fuel ih =>
    intro t listed hs hl
    rw [go_eq]
    split
    · rename_i i hi
      have hir : i ∈ Region.ready md ops listed := List.mem_of_getElem? hi
      obtain ⟨hif, o, ho, hed⟩ := mem_ready.1 hir
      have hilt : i < ops.size := (Array.getElem?_eq_some_iff.1 ho).1
      have hiu : i ∈ unl ops.size listed := mem_unl.2 ⟨hilt, hif⟩
      have hu := unl_set (n := ops.size) (i := i) (listed := listed) (by omega)
      have hlen : (unl ops.size (listed.setIfInBounds i true)).length ≤ fuel := by
        rw [hu]
        have : ((unl ops.size listed).filter (· != i)).length < (unl ops.size listed).length := by
          rw [List.length_filter_lt_length_iff_exists]
          exact ⟨i, hiu, by simp⟩
        omega
      obtain ⟨h1, h2, h3⟩ := ih (t / (Region.ready md ops listed).length) (listed.setIfInBounds i true) (by simpa using hs) hlen
      refine ⟨List.nodup_cons.2 ⟨?_, h1⟩, ?_, ?_⟩
      · rw [h2, hu]; simp
      · intro j
        rw [List.mem_cons, h2, hu, List.mem_filter]
        constructor
        · rintro (rfl | hj)
          · exact hiu
          · exact hj.1
        · intro hj
          by_cases hji : j = i
          · exact .inl hji
          · exact .inr ⟨hj, by simpa using hji⟩
      · intro j oj e hj hoj he hbe
        rcases List.mem_cons.1 hj with rfl | hj
        · rw [ho] at hoj; cases hoj
          exact .inl (hed e he hbe)
        · rcases h3 j oj e hj hoj he hbe with h | h
          · by_cases hei : e.on = i
            · right
              rw [hei]
              exact List.Sublist.cons_cons i (List.singleton_sublist.2 hj)
            · left
              rw [← h]
              have : i ≠ e.on := fun h => hei h.symm
              simp [Array.getD_eq_getD_getElem?, Array.getElem?_setIfInBounds_ne this]
          · exact .inr (h.cons _)
    · rename_i hi
      have h0 : unl ops.size listed = [] := by
        cases hq : unl ops.size listed with
        | nil => rfl
        | cons x xs =>
          exfalso
          have hne := ready_some hb hs (by rw [hq]; simp)
          have hpos : 0 < (Region.ready md ops listed).length := List.length_pos_iff.2 hne
          have := Nat.mod_lt t hpos
          rw [List.getElem?_eq_none_iff] at hi
          omega
      rw [h0]
      exact ⟨List.nodup_nil, by simp, fun i o e hi => by cases hi⟩

/-- Behind which operations each one stands, as bits. -/
def maskOf (md : Region.Mode) (o : Oper) (acc : List Nat) : Nat := o.after.toList.foldl (fun s e => if Region.binds md e then s ||| (2 ^ e.on ||| acc.getD e.on 0) else s) 0
def clo (md : Region.Mode) : List Oper → List Nat → List Nat
  | [], acc => acc
  | o :: r, acc => clo md r (acc ++ [maskOf md o acc])

/-- An order that keeps the edges. -/
structure Lin (md : Region.Mode) (ops : Array Oper) (σ : List Nat) : Prop where
  nodup : σ.Nodup
  mem : ∀ i, i ∈ σ ↔ i < ops.size
  edge : ∀ i o e, ops[i]? = some o → e ∈ o.after → Region.binds md e = true → [e.on, i].Sublist σ

theorem sub2_trans {σ : List Nat} (hn : σ.Nodup) {i j k : Nat} (h : [i, j].Sublist σ) (h' : [j, k].Sublist σ) : [i, k].Sublist σ := by
  induction σ with
  | nil => cases h
  | cons x σ ih =>
    have hx := List.nodup_cons.1 hn
    cases h with
    | cons _ h1 =>
      cases h' with
      | cons _ h2 => exact (ih hx.2 h1 h2).cons _
      | cons_cons _ h2 => exact absurd (h1.subset (by simp)) hx.1
    | cons_cons _ h1 =>
      cases h' with
      | cons _ h2 => exact List.Sublist.cons_cons _ (List.singleton_sublist.2 (h2.subset (by simp)))
      | cons_cons _ h2 => exact absurd (List.singleton_sublist.1 h1) hx.1

theorem sub2_ne {σ : List Nat} (hn : σ.Nodup) {i j : Nat} (h : [i, j].Sublist σ) : i ≠ j := by
  have := h.nodup hn
  simpa using this

theorem sub2_asymm {σ : List Nat} (hn : σ.Nodup) {i j : Nat} (h : [i, j].Sublist σ) (h' : [j, i].Sublist σ) : False :=
  sub2_ne hn (sub2_trans hn h h') rfl

theorem sub2_total {σ : List Nat} {i j : Nat} (hi : i ∈ σ) (hj : j ∈ σ) (hne : i ≠ j) : [i, j].Sublist σ ∨ [j, i].Sublist σ := by
  induction σ with
  | nil => cases hi
  | cons x σ ih =>
    rcases List.mem_cons.1 hi with h1 | h1 <;> rcases List.mem_cons.1 hj with h2 | h2
    · exact absurd (h1.trans h2.symm) hne
    · rw [h1]; exact .inl (List.Sublist.cons_cons _ (List.singleton_sublist.2 h2))
    · rw [h2]; exact .inr (List.Sublist.cons_cons _ (List.singleton_sublist.2 h1))
    · exact (ih h1 h2).imp (·.cons _) (·.cons _)

theorem mask_spec {σ : List Nat} {o : Oper} {acc : List Nat} {j : Nat} (hn : σ.Nodup) (hacc : ∀ k i, (acc.getD k 0).testBit i = true → [i, k].Sublist σ) (hed : ∀ e ∈ o.after.toList, Region.binds md e = true → [e.on, j].Sublist σ) :
    ∀ i, (maskOf md o acc).testBit i = true → [i, j].Sublist σ := by
  have key : ∀ (l : List Edge) (s : Nat), (∀ e ∈ l, Region.binds md e = true → [e.on, j].Sublist σ) → (∀ i, s.testBit i = true → [i, j].Sublist σ) →
      ∀ i, (l.foldl (fun s e => if Region.binds md e then s ||| (2 ^ e.on ||| acc.getD e.on 0) else s) s).testBit i = true → [i, j].Sublist σ := by
    intro l
    induction l with
    | nil => intro s _ hs i hi; exact hs i hi
    | cons e l ih =>
      intro s hl hs i hi
      rw [List.foldl_cons] at hi
      refine ih _ (fun e' he' => hl e' (by simp [he'])) ?_ i hi
      intro i hi
      split at hi
      · rename_i hbe
        have hej := hl e (by simp) hbe
        simp only [Nat.testBit_or, Bool.or_eq_true] at hi
        rcases hi with hi | hi | hi
        · exact hs i hi
        · rw [Nat.testBit_two_pow] at hi
          have : e.on = i := by simpa using hi
          rw [← this]; exact hej
        · exact sub2_trans hn (hacc _ _ hi) hej
      · exact hs i hi
  exact key _ 0 hed (by simp)

theorem clo_spec {σ : List Nat} (hL : Lin md ops σ) : ∀ (l : List Oper) (acc : List Nat), (∀ k o, l[k]? = some o → ops[acc.length + k]? = some o) → (∀ k i, (acc.getD k 0).testBit i = true → [i, k].Sublist σ) →
    ∀ k i, ((clo md l acc).getD k 0).testBit i = true → [i, k].Sublist σ
  | [], acc, _, hacc => hacc
  | o :: l, acc, hl, hacc => by
    have ho : ops[acc.length]? = some o := by simpa using hl 0 o rfl
    refine clo_spec hL l (acc ++ [maskOf md o acc]) (fun k o' hk => ?_) (fun k i hi => ?_)
    · have := hl (k + 1) o' (by simpa using hk)
      simpa [Nat.add_assoc, Nat.add_comm 1 k] using this
    · by_cases hk : k < acc.length
      · rw [List.getD_eq_getElem?_getD, List.getElem?_append_left hk, ← List.getD_eq_getElem?_getD] at hi
        exact hacc k i hi
      · by_cases hk' : k = acc.length
        · subst hk'
          rw [List.getD_eq_getElem?_getD, List.getElem?_append_right (by omega)] at hi
          simp only [Nat.sub_self, List.getElem?_cons_zero, Option.getD_some] at hi
          exact mask_spec hL.nodup hacc (fun e he hb => hL.edge _ o e ho (by simpa using he) hb) i hi
        · rw [List.getD_eq_getElem?_getD, List.getElem?_eq_none (by simp; omega)] at hi
          simp at hi

theorem lin_go (hb : backB md ops = true) (t : Nat) : Lin md ops (Region.linearise md ops t) := by
  have hu : ∀ i, i ∈ unl ops.size (Array.replicate ops.size false) ↔ i < ops.size := fun i => by
    rw [mem_unl]
    constructor
    · exact fun h => h.1
    · intro h; refine ⟨h, ?_⟩; simp [Array.getD_eq_getD_getElem?, h]
  have hlen : (unl ops.size (Array.replicate ops.size false)).length ≤ ops.size := by
    unfold unl
    exact Nat.le_trans (List.length_filter_le _ _) (by simp)
  obtain ⟨h1, h2, h3⟩ := go_spec hb ops.size t (Array.replicate ops.size false) (by simp) hlen
  refine ⟨h1, fun i => (h2 i).trans (hu i), fun i o e ho he hbe => ?_⟩
  have hi : i < ops.size := (Array.getElem?_eq_some_iff.1 ho).1
  rcases h3 i o e ((h2 i).2 ((hu i).2 hi)) ho he hbe with h | h
  · exfalso
    by_cases hlt : e.on < ops.size <;> simp [Array.getD_eq_getD_getElem?, hlt] at h
  · exact h

/-- Does i stand before j? -/
def bef : List Nat → Nat → Nat → Bool
  | [], _, _ => false
  | x :: r, i, j => if x = i then r.contains j else if x = j then false else bef r i j
theorem bef_spec {i j : Nat} : ∀ {l : List Nat}, bef l i j = true → [i, j].Sublist l
  | [], h => by cases h
  | x :: r, h => by
    simp only [bef] at h
    split at h
    · rename_i hx; subst hx
      exact List.Sublist.cons_cons _ (List.singleton_sublist.2 (by simpa using h))
    · split at h
      · cases h
      · exact (bef_spec h).cons _

/-- Does y stand ahead of x, by the edges and by what has been chosen? -/
def forced (c : List Nat) (E : List (Nat × Nat)) (y x : Nat) : Bool := E.any fun p => (y == p.1 || (c.getD p.1 0).testBit y) && (p.2 == x || (c.getD x 0).testBit p.2)

/-- Some given orders stand for all, as far as these pairs go. -/
def cov (c : List Nat) : List (Nat × Nat) → List (Nat × Nat) → List (List Nat) → Bool
  | [], _, cs => !cs.isEmpty
  | (i, j) :: r, E, cs => (forced c E j i || cov c r ((i, j) :: E) (cs.filter fun τ => bef τ i j)) && (forced c E i j || cov c r ((j, i) :: E) (cs.filter fun τ => bef τ j i))

theorem forced_spec {σ : List Nat} (hn : σ.Nodup) {c : List Nat} (hc : ∀ k i, (c.getD k 0).testBit i = true → [i, k].Sublist σ) {E : List (Nat × Nat)} (hE : ∀ i j, (i, j) ∈ E → [i, j].Sublist σ) {y x : Nat} (h : forced c E y x = true) :
    [y, x].Sublist σ := by
  unfold forced at h
  rw [List.any_eq_true] at h
  obtain ⟨⟨u, v⟩, hm, h⟩ := h
  simp only [Bool.and_eq_true, Bool.or_eq_true, beq_iff_eq] at h
  have huv := hE u v hm
  have h1 : [y, v].Sublist σ := by
    rcases h.1 with rfl | h1
    · exact huv
    · exact sub2_trans hn (hc _ _ h1) huv
  rcases h.2 with rfl | h2
  · exact h1
  · exact sub2_trans hn h1 (hc _ _ h2)

theorem cov_spec {σ : List Nat} (hn : σ.Nodup) {c : List Nat} (hc : ∀ k i, (c.getD k 0).testBit i = true → [i, k].Sublist σ) : ∀ {A E : List (Nat × Nat)} {cs : List (List Nat)}, (∀ i j, (i, j) ∈ A → i ∈ σ ∧ j ∈ σ ∧ i ≠ j) →
    (∀ i j, (i, j) ∈ E → [i, j].Sublist σ) → cov c A E cs = true →
    ∃ τ ∈ cs, ∀ i j, (i, j) ∈ A → (([i, j].Sublist σ ∧ [i, j].Sublist τ) ∨ ([j, i].Sublist σ ∧ [j, i].Sublist τ))
  | [], E, cs, _, _, h => by
    cases cs with
    | nil => simp [cov] at h
    | cons τ cs => exact ⟨τ, by simp, by simp⟩
  | (i, j) :: A, E, cs, hA, hE, h => by
    simp only [cov, Bool.and_eq_true, Bool.or_eq_true] at h
    obtain ⟨h1, h2, h3⟩ := hA i j (by simp)
    have hA' : ∀ i j, (i, j) ∈ A → i ∈ σ ∧ j ∈ σ ∧ i ≠ j := fun i j hm => hA i j (by simp [hm])
    rcases sub2_total h1 h2 h3 with hs | hs
    · have hcv := h.1.resolve_left (fun hf => sub2_asymm hn hs (forced_spec hn hc hE hf))
      obtain ⟨τ, hτ, ht⟩ := cov_spec hn hc hA' (fun a b hm => by
        rcases List.mem_cons.1 hm with he | hm
        · cases he; exact hs
        · exact hE a b hm) hcv
      rw [List.mem_filter] at hτ
      refine ⟨τ, hτ.1, fun a b hm => ?_⟩
      rcases List.mem_cons.1 hm with he | hm
      · cases he; exact .inl ⟨hs, bef_spec hτ.2⟩
      · exact ht a b hm
    · have hcv := h.2.resolve_left (fun hf => sub2_asymm hn hs (forced_spec hn hc hE hf))
      obtain ⟨τ, hτ, ht⟩ := cov_spec hn hc hA' (fun a b hm => by
        rcases List.mem_cons.1 hm with he | hm
        · cases he; exact hs
        · exact hE a b hm) hcv
      rw [List.mem_filter] at hτ
      refine ⟨τ, hτ.1, fun a b hm => ?_⟩
      rcases List.mem_cons.1 hm with he | hm
      · cases he; exact .inr ⟨hs, bef_spec hτ.2⟩
      · exact ht a b hm

/-- All pairs below n that hang on one another. -/
def deps (ops : Array Oper) (cls : Nat → Cls) (n : Nat) : List (Nat × Nat) :=
  (List.range n).flatMap fun j => (List.range j).filterMap fun i => if indepB ops cls i j then none else some (i, j)

theorem mem_deps {cls : Nat → Cls} {n i j : Nat} : (i, j) ∈ deps ops cls n ↔ i < j ∧ j < n ∧ indepB ops cls i j = false := by
  unfold deps
  rw [List.mem_flatMap]
  constructor
  · rintro ⟨j', hj', hm⟩
    rw [List.mem_filterMap] at hm
    obtain ⟨i', hi', he⟩ := hm
    split at he
    · cases he
    · rename_i hf
      simp only [Option.some.injEq, Prod.mk.injEq] at he
      obtain ⟨rfl, rfl⟩ := he
      exact ⟨List.mem_range.1 hi', List.mem_range.1 hj', by simpa using hf⟩
  · rintro ⟨h1, h2, h3⟩
    exact ⟨j, List.mem_range.2 h2, List.mem_filterMap.2 ⟨i, List.mem_range.2 h1, by simp [h3]⟩⟩

def permB (τ : List Nat) (n : Nat) : Bool := τ.length == n && (List.range n).all fun i => τ.contains i

theorem perm_of_sub {τ l : List Nat} (hn : l.Nodup) (h : ∀ x ∈ l, x ∈ τ) (hl : τ.length = l.length) : τ.Perm l := by
  induction l generalizing τ with
  | nil => simp at hl; subst hl; exact List.Perm.refl _
  | cons x l ih =>
    obtain ⟨a, b, rfl⟩ := List.append_of_mem (h x (by simp))
    have hx := List.nodup_cons.1 hn
    have := ih (τ := a ++ b) hx.2 (fun y hy => by
      have h1 := h y (by simp [hy])
      simp only [List.mem_append, List.mem_cons] at h1 ⊢
      rcases h1 with h1 | h1 | h1
      · exact .inl h1
      · exact absurd (h1 ▸ hy) hx.1
      · exact .inr h1) (by simp at hl ⊢; omega)
    exact List.perm_middle.trans (this.cons x)

theorem permB_spec {τ : List Nat} {n : Nat} (h : permB τ n = true) : τ.Perm (List.range n) := by
  unfold permB at h
  simp only [Bool.and_eq_true, beq_iff_eq] at h
  refine perm_of_sub List.nodup_range (fun x hx => ?_) (by simp [h.1])
  simpa using List.all_eq_true.1 h.2 x hx

/-- The check of a drawn region: the order as written, and the other ones given, stand for all. -/
def drawB (ops : Array Oper) (cls : Nat → Cls) (alts : List (List Nat)) : Bool :=
  let c := clo .any ops.toList []
  let D := deps ops cls ops.size
  let A := D.filter fun p => !(c.getD p.2 0).testBit p.1
  let cs := List.range ops.size :: alts
  backB .any ops && (alts.all fun τ => permB τ ops.size) && (cs.all fun τ => D.all fun p => !(c.getD p.2 0).testBit p.1 || bef τ p.1 p.2) && cov c A [] cs

theorem drawB_spec {cls : Nat → Cls} {alts : List (List Nat)} (h : drawB ops cls alts = true) {σ : List Nat} (hL : Lin .any ops σ) :
    ∃ τ ∈ List.range ops.size :: alts, σ.Perm τ ∧ τ.Nodup ∧ ∀ i j, indepB ops cls i j = false → [i, j].Sublist τ → [i, j].Sublist σ := by
  unfold drawB at h
  simp only [Bool.and_eq_true] at h
  obtain ⟨⟨⟨hb, hperm⟩, hclo⟩, hcov⟩ := h
  have hc := clo_spec hL ops.toList [] (fun k o hk => by simpa using hk) (fun k i hi => by simp at hi)
  obtain ⟨τ, hτ, ht⟩ := cov_spec hL.nodup hc (fun i j hm => by
    rw [List.mem_filter] at hm
    obtain ⟨h1, h2, h3⟩ := mem_deps.1 hm.1
    exact ⟨(hL.mem i).2 (by omega), (hL.mem j).2 h2, by omega⟩) (by simp) hcov
  have hpτ : τ.Perm (List.range ops.size) := by
    rcases List.mem_cons.1 hτ with rfl | hm
    · exact List.Perm.refl _
    · rw [List.all_eq_true] at hperm
      exact permB_spec (hperm τ hm)
  have hpσ : σ.Perm (List.range ops.size) := by
    rw [List.perm_ext_iff_of_nodup hL.nodup List.nodup_range]
    intro i; rw [hL.mem, List.mem_range]
  have hnτ : τ.Nodup := hpτ.nodup_iff.2 List.nodup_range
  refine ⟨τ, hτ, hpσ.trans hpτ.symm, hnτ, ?_⟩
  have main : ∀ i j, i < j → indepB ops cls i j = false → j < ops.size → (([i, j].Sublist σ ∧ [i, j].Sublist τ) ∨ ([j, i].Sublist σ ∧ [j, i].Sublist τ)) := by
    intro i j hij hi hj
    have hD := mem_deps.2 ⟨hij, hj, hi⟩
    cases hbit : ((clo .any ops.toList []).getD j 0).testBit i with
    | true =>
      have h1 := hc j i hbit
      rw [List.all_eq_true] at hclo
      have h2 := hclo τ hτ
      rw [List.all_eq_true] at h2
      have h3 := h2 (i, j) hD
      simp only [hbit, Bool.not_true, Bool.false_or] at h3
      exact .inl ⟨h1, bef_spec h3⟩
    | false => exact ht i j (List.mem_filter.2 ⟨hD, by simp only [hbit, Bool.not_false]⟩)
  intro i j hi hs
  have hne := sub2_ne hnτ hs
  have hil : i < ops.size := List.mem_range.1 (hpτ.subset (hs.subset (by simp)))
  have hjl : j < ops.size := List.mem_range.1 (hpτ.subset (hs.subset (by simp)))
  rcases Nat.lt_or_gt_of_ne hne with hlt | hlt
  · rcases main i j hlt hi hjl with ⟨h1, h2⟩ | ⟨h1, h2⟩
    · exact h1
    · exact (sub2_asymm hnτ hs h2).elim
  · have hi' : indepB ops cls j i = false := by
      cases hq : indepB ops cls j i with
      | false => rfl
      | true => rw [indepB_symm hq] at hi; cases hi
    rcases main j i hlt hi' hil with ⟨h1, h2⟩ | ⟨h1, h2⟩
    · exact (sub2_asymm hnτ hs h2).elim
    · exact h1

/-- A drawn region. -/
theorem wp_drawn {P : Program} {id : Nat} {cls : Nat → Cls} {alts : List (List Nat)} {K : Act → World → Prop} {Q : Exit → Act → World → Prop} {a : Act} {w : World} (hm : P.follows .mixedOrders = true)
    (hd : drawB ops cls alts = true) (hK : ∀ a w, K a w → Q .normal a w)
    (h : ∀ τ ∈ List.range ops.size :: alts, wpY P ops cls K τ a { w with drawn := w.drawn + 1 }) : (Code.region id ops true).wp P Q a w := by
  refine wp_region_draw fun t => ?_
  simp only [Region.schedule, hm, Bool.true_or, if_true]
  have hb : backB .any ops = true := by
    unfold drawB at hd
    simp only [Bool.and_eq_true] at hd
    exact hd.1.1.1
  obtain ⟨τ, hτ, h1, h2, h3⟩ := drawB_spec hd (lin_go hb t)
  exact wpY_ops hK (wpY_perm h1 h2 h3 (h τ hτ))

/-- A region whose order is fixed. -/
theorem wp_fixed {P : Program} {id : Nat} {cls : Nat → Cls} {K : Act → World → Prop} {Q : Exit → Act → World → Prop} {a : Act} {w : World} (hK : ∀ a w, K a w → Q .normal a w)
    (h : wpY P ops cls K (List.range ops.size) a w) : (Code.region id ops false).wp P Q a w :=
  wp_region (wpY_ops hK h)

end
end Go.Idl

/- Results of a call, taken out of the frame. Conditions: none (lemmas). -/
namespace Go.Idl
open Go

section
variable {cx : Cx} {w w' : World} {F F' : Nat → Prop} {ρ ρ' : Rho} {fp fp' : Fp} {X f f' fy : List Nat} {st st' : St} {a : Act} {tm : Nat → Value} {v : IV}

theorem Cat.uns {R : IV → Value → List Nat → Prop} (hR : ∀ v, R .un v []) : ∀ (us : List Value), Cat R (List.replicate us.length .un) us []
  | [] => .nil
  | u :: us => by
    rw [List.length_cons, List.replicate_succ]
    exact Cat.cons (f := []) (fp := []) (hR u) (Cat.uns hR us)

/-- Cells of a box are taken out. -/
theorem Rel.takeBox (h : Rel cx w F ρ fp X st tm) {l k c sz : Nat} {cs xs : List IV} (hb : st.box l k = some cs) (hs : sub cs c sz = some xs) :
    ∃ fp' fx us C ty, Rel cx w F ρ fp' (fx ++ X) { st.setBox l k (splice cs c (List.replicate sz .un)) with T := killRt (.B l k) st.T } tm ∧ Cat (RBox cx w F ρ st l) xs us fx ∧
      w.heap[ρ l k]? = some (.cells C ty (0, 0)) ∧ us = (C.toList.drop c).take sz ∧ c + sz ≤ C.size ∧ (∀ b ∈ fx, ∃ r, b ∈ fp r) ∧ (∀ r, ∀ b ∈ fp' r, b ∈ fp r) ∧
      ShpLe st { st.setBox l k (splice cs c (List.replicate sz .un)) with T := killRt (.B l k) st.T } := by
  obtain ⟨C, ty, f0, hfp, hC, hcat⟩ := h.boxes l k cs hb
  obtain ⟨hle, rfl⟩ := sub_some hs
  have hcl : cs.length = C.toList.length := hcat.len
  have hdec : cs = cs.take c ++ ((cs.drop c).take sz ++ cs.drop (c + sz)) := by
    rw [← List.drop_drop, List.take_append_drop, List.take_append_drop]
  rw [hdec] at hcat
  obtain ⟨u1, u2, f1, g0, hu, hfe, h1, h2⟩ := hcat.split
  obtain ⟨us, u3, g, f2, hu2, hg0, hx, h3⟩ := h2.split
  subst hu2
  subst hg0
  have hl1 : u1.length = c := by rw [← h1.len]; simp; omega
  have hl2 : us.length = sz := by rw [← hx.len]; simp; omega
  have hus : us = (C.toList.drop c).take sz := by rw [hu, List.drop_append, hl1]; simp [← hl1, ← hl2]
  have hCs : C.toList.length = C.size := Array.length_toList
  have hnew : Cat (RBox cx w F ρ st l) (splice cs c (List.replicate sz .un)) C.toList (f1 ++ f2) := by
    have e1 : splice cs c (List.replicate sz .un) = cs.take c ++ (List.replicate us.length .un ++ cs.drop (c + sz)) := by
      simp [splice, hl2]
    rw [e1, hu]
    have := h1.app ((Cat.uns (R := RBox cx w F ρ st l) (fun v => .inr (RDs.un (v := v) .nil)) us).app h3)
    simpa using this
  have hsome : (st.box l k).isSome = true := by rw [hb]; rfl
  have hbs := fun l' k' => box_setBox (cs' := splice cs c (List.replicate sz .un)) hsome l' k'
  have shp := shp_setBox st l k (splice cs c (List.replicate sz .un))
  have hin : ρ l k ∈ fp (.B l k) := by rw [hfp]; simp
  have hpk : KillOK (IV.rooted (.B l k)) := .rooted _
  have hmem : ∀ b, b ∈ f1 ++ f2 → b ∈ f0 := fun b hb => by rw [hfe]; simp at hb ⊢; rcases hb with h | h <;> simp [h]
  have hgmem : ∀ b, b ∈ g → b ∈ f0 := fun b hb => by rw [hfe]; simp [hb]
  have hnd := h.nodup (.B l k)
  rw [hfp] at hnd
  obtain ⟨hnin, hnd0⟩ := List.nodup_cons.1 hnd
  rw [hfe] at hnd0
  have hn1 := List.nodup_append.1 hnd0
  have hn2 := List.nodup_append.1 hn1.2.1
  have hdisj : ∀ b, b ∈ g → b ∉ f1 ++ f2 := fun b hb hb' => by
    rcases List.mem_append.1 hb' with h' | h'
    · exact hn1.2.2 b h' b (by simp [hb]) rfl
    · exact hn2.2.2 b hb b h' rfl
  have tr : Tr w F ρ st (look st tm ρ w) w F ρ { st.setBox l k (splice cs c (List.replicate sz .un)) with T := killRt (.B l k) st.T }
      (look { st.setBox l k (splice cs c (List.replicate sz .un)) with T := killRt (.B l k) st.T } tm ρ w) (fun r c q => ∃ x : IV, refAt x r c q ∧ IV.rooted (.B l k) x = false) := by
    refine ⟨fun r c2 q hlive x1 v1 e2 es2 A hn hcap hlk hfo => ?_, fun _ _ => rfl, fun _ h => h, fun l' k' hb => ⟨rfl, shp.box hb⟩⟩
    obtain ⟨e1, es1, rfl⟩ := folR_own hfo
    by_cases hr : r = .B l k
    · subst hr
      obtain ⟨x, hx1, hx2⟩ := hlive
      have : x.rooted (.B l k) = true := refAt_rooted hx1
      rw [this] at hx2; cases hx2
    · refine ⟨.own e1 es1, es2, ?_, hfo, Nat.le_refl _⟩
      cases r with
      | S s' =>
        obtain ⟨h1, h2⟩ := look_S hlk
        refine look_S_mk ?_ h2
        unfold killRt
        rw [tget_killBy]
        exact cells_kl hpk h1
      | B l' k' =>
        have hne : ¬ (l' = l ∧ k' = k) := fun hc => hr (by rw [hc.1, hc.2])
        have hb1 : ({ st.setBox l k (splice cs c (List.replicate sz .un)) with T := killRt (.B l k) st.T } : St).box l' k' = st.box l' k' := by
          rw [box_T, hbs, if_neg hne]
        simp only [look, hb1]
        simp only [look] at hlk
        exact hlk
  have hsub : ∀ q, ∀ b ∈ updFp fp (.B l k) (ρ l k :: (f1 ++ f2)) q, b ∈ fp q := fun q b hb => by
    unfold updFp at hb; split at hb
    · rename_i hq; subst hq
      rw [hfp]
      rcases List.mem_cons.1 hb with rfl | hb
      · simp
      · exact List.mem_cons_of_mem _ (hmem b hb)
    · exact hb
  have hgB : ∀ b ∈ g, b ∈ fp (.B l k) := fun b hb => by rw [hfp]; exact List.mem_cons_of_mem _ (hgmem b hb)
  have hgnot : ∀ q, ∀ b ∈ updFp fp (.B l k) (ρ l k :: (f1 ++ f2)) q, b ∉ g := fun q b hb hbg => by
    by_cases hq : q = .B l k
    · subst hq
      rw [show updFp fp (.B l k) (ρ l k :: (f1 ++ f2)) (.B l k) = ρ l k :: (f1 ++ f2) from if_pos rfl] at hb
      rcases List.mem_cons.1 hb with rfl | hb
      · exact hnin (hgmem _ hbg)
      · exact hdisj b hbg hb
    · exact h.disj q (.B l k) hq b (hsub q b hb) (hgB b hbg)
  refine ⟨updFp fp (.B l k) (ρ l k :: (f1 ++ f2)), g, us, C, ty, ⟨fun s' => ?_, fun l' k' cs' hb' => ?_, fun l' k' hb' => ?_, fun r => ?_, fun r r' hr b hb hb' => ?_, fun r b hb => h.notF r b (hsub r b hb), fun r b hb => h.lt r b (hsub r b hb), h.Flt, ?_, fun r b hb hx => ?_, fun b hb => ?_,
    fun b hb => ?_⟩, hx, hC, hus, by rw [← hCs, ← hcl]; exact hle, fun b hb => ⟨_, hgB b hb⟩, hsub, ⟨shp.M, shp.loc⟩⟩
  · unfold killRt
    rw [tget_killBy]
    have hne : (Rt.S s' : Rt) ≠ .B l k := fun hc => by cases hc
    rw [show updFp fp (.B l k) (ρ l k :: (f1 ++ f2)) (.S s') = fp (.S s') from if_neg hne]
    exact (h.slots s').trk tr hpk (liveK _) (fun _ _ => rfl)
  · rw [box_T, hbs] at hb'
    by_cases hlk : l' = l ∧ k' = k
    · obtain ⟨rfl, rfl⟩ := hlk
      simp only [and_self, if_true, Option.some.injEq] at hb'
      subst hb'
      exact ⟨C, ty, f1 ++ f2, if_pos rfl, hC, hnew.mono fun x v f' hf' hx _ => hx.tr tr (fun _ _ => rfl)⟩
    · rw [if_neg hlk] at hb'
      obtain ⟨C', ty', f', k1, k2, k3⟩ := h.boxes l' k' cs' hb'
      have hne : (Rt.B l' k' : Rt) ≠ .B l k := fun hc => hlk (by cases hc; exact ⟨rfl, rfl⟩)
      refine ⟨C', ty', f', by rw [show updFp fp (.B l k) (ρ l k :: (f1 ++ f2)) (.B l' k') = fp (.B l' k') from if_neg hne]; exact k1, k2, ?_⟩
      exact k3.mono fun x v f hf hx _ => hx.tr tr (fun _ _ => rfl)
  · rw [box_T, hbs] at hb'
    by_cases hlk : l' = l ∧ k' = k
    · rw [if_pos hlk] at hb'; cases hb'
    · rw [if_neg hlk] at hb'
      have hne : (Rt.B l' k' : Rt) ≠ .B l k := fun hc => hlk (by cases hc; exact ⟨rfl, rfl⟩)
      rw [show updFp fp (.B l k) (ρ l k :: (f1 ++ f2)) (.B l' k') = fp (.B l' k') from if_neg hne]
      exact h.nobox l' k' hb'
  · unfold updFp; split
    · refine List.nodup_cons.2 ⟨fun hm => hnin (hmem _ hm), ?_⟩
      rw [List.nodup_append]
      exact ⟨hn1.1, hn2.2.1, fun x hx y hy => hn1.2.2 x hx y (by simp [hy])⟩
    · exact h.nodup r
  · exact h.disj r r' hr b (hsub r b hb) (hsub r' b hb')
  · rw [List.nodup_append]
    exact ⟨hn2.1, h.xnodup, fun x hx y hy hxy => h.xdisj (.B l k) x (hgB x hx) (hxy ▸ hy)⟩
  · rcases List.mem_append.1 hx with hx | hx
    · exact hgnot r b hb hx
    · exact h.xdisj r b (hsub r b hb) hx
  · rcases List.mem_append.1 hb with hb | hb
    · exact h.notF _ b (hgB b hb)
    · exact h.xF b hb
  · rcases List.mem_append.1 hb with hb | hb
    · exact h.lt _ b (hgB b hb)
    · exact h.xlt b hb

end
end Go.Idl

/- Results of a call, in both worlds. Conditions: none (definitions and lemmas). -/
namespace Go.Idl
open Go

/-- A result variable of the model and its ideal twin. -/
def okRes (P : Program) : ResultVar → RVar → Prop
  | .tmp t, .t s => t = s
  | .cell a t, .c b sz ag => a = b ∧ sizeIs P t sz ∧ aggIs P t ag
  | _, _ => False
def okRess (P : Program) : List ResultVar → List RVar → Prop
  | [], [] => True
  | x :: xs, y :: ys => okRes P x y ∧ okRess P xs ys
  | _, _ => False

/-- A result variable's value. -/
def resRun (a : Act) : ResultVar → Sem Value
  | .tmp t => pure (a.tmps.getD t undef)
  | .cell b t => do loadVar t (← asAddr (a.tmps.getD b undef))

section
variable {cx : Cx} {w w' : World} {F F' : Nat → Prop} {ρ ρ' : Rho} {fp fp' : Fp} {X f f' fy : List Nat} {st st' : St} {a : Act} {tm : Nat → Value} {v : IV}

theorem RA.keep {x : IV} {u : Value} (h : RA cx w F ρ st x u f) (hs : ShpLe st st') : RA cx w F ρ st' x u f :=
  ⟨h.frame (fun _ _ => rfl) (fun _ _ => rfl) (fun _ h => h) (fun l k hb => ⟨rfl, hs.box hb⟩), h.2⟩

theorem ra_agg {cs : List IV} {us : Array Value} {lk} (hc : Cat (RC cx w F ρ st lk) cs us.toList f) (hd : ∀ y ∈ cs, y.isD = true) : RA cx w F ρ st (.agg cs) (.agg us) f :=
  ⟨⟨us, rfl, hc.mono fun x v f _ hx hm => hx.toNo (hd x hm)⟩, by simpa [IV.isA] using hd⟩

theorem ra_one {x : IV} {u : Value} {lk} (hx : RC cx w F ρ st lk x u f) (hd : x.isD = true) : RA cx w F ρ st x u f := by
  have := hx.toNo (cx := cx) (ρ := ρ) (st := st) hd
  refine ⟨?_, ?_⟩
  · cases x with
    | agg cs => simp [IV.isD] at hd
    | un => simp [IV.isD] at hd
    | _ => exact this
  · cases x with
    | agg cs => simp [IV.isD] at hd
    | _ => exact hd

theorem isData_isD {x : IV} (h : x.isData = true) : x.isD = true := by
  cases x <;> simp_all [IV.isData, IV.isD]

theorem RBox.isData_rc {l : Nat} {x : IV} {u : Value} {lk} (h : RBox cx w F ρ st l x u f) (hd : x.isData = true) : RC cx w F ρ st lk x u f := by
  rcases h with ⟨h, _⟩ | h
  · cases x <;> first | (simp [IV.isData] at hd; done) | exact h.elim
  · exact .inr h

theorem shp_T (st : St) (T : Tm) : ShpLe st { st with T := T } := ⟨rfl, Nat.le_refl _⟩

theorem retv_rel (h : Rel cx w F ρ fp X st (regs a)) {r : ResultVar} {x : RVar} (hx : okRes cx.P r x) (ha : st.retv x = some (v, st')) :
    ∃ fp' fv u, Rel cx w F ρ fp' (fv ++ X) st' (regs a) ∧ RA cx w F ρ st' v u fv ∧ (resRun a r).run cx.P w = .ok u w ∧ (∀ b ∈ fv, ∃ r, b ∈ fp r) ∧ (∀ r, ∀ b ∈ fp' r, b ∈ fp r) ∧ ShpLe st st' := by
  cases x with
  | t s =>
    cases r with
    | cell b t => exact hx.elim
    | tmp t =>
    have hts : t = s := hx
    subst hts
    have hrun : (resRun a (.tmp t)).run cx.P w = .ok (a.tmps.getD t undef) w := rfl
    obtain ⟨h1, h2⟩ := h.drop t
    have hsub : ∀ r, ∀ b ∈ updFp fp (.S t) [] r, b ∈ fp r := fun r b hb => by
      unfold updFp at hb; split at hb
      · cases hb
      · exact hb
    simp only [St.retv] at ha
    generalize hz : kl (IV.rooted (.S t)) (tget st.T t) = z at *
    have one : ∀ {y : IV}, RC cx w F ρ { st with T := dropSlot t st.T } (look { st with T := dropSlot t st.T } (regs a) ρ w) z (regs a t) (fp (.S t)) → ({ st with T := dropSlot t st.T } : St).absorb z = some (y, st') →
        ∃ fp' fv u, Rel cx w F ρ fp' (fv ++ X) st' (regs a) ∧ RA cx w F ρ st' y u fv ∧ (resRun a (.tmp t)).run cx.P w = .ok u w ∧ (∀ b ∈ fv, ∃ r, b ∈ fp r) ∧ (∀ r, ∀ b ∈ fp' r, b ∈ fp r) ∧ ShpLe st st' := by
      intro y hz hab
      obtain ⟨fp', f', k1, k2, k3, k4, k5, k6, -⟩ := h1.absorb hz hab
      refine ⟨fp', f', regs a t, k1, ra_one k2 k3, hrun, fun b hb => ?_, fun r b hb => hsub r b (k5 r b hb), (shp_T st _).trans k6⟩
      rcases k4 b hb with hb | ⟨r, hb⟩
      · exact ⟨_, hb⟩
      · exact ⟨r, hsub r b hb⟩
    cases z with
    | agg cs =>
      simp only at ha
      obtain ⟨C, hC, hc⟩ := h2
      cases hab : ({ st with T := dropSlot t st.T } : St).absorbs cs with
      | none => simp [hab] at ha
      | some p =>
      obtain ⟨ys, st2⟩ := p
      simp only [hab, Option.some.injEq, Prod.mk.injEq] at ha
      obtain ⟨rfl, rfl⟩ := ha
      obtain ⟨fp', fy, k1, k2, k3, k4, k5, k6⟩ := h1.absorbs hc hab
      refine ⟨fp', fy, .agg C, k1, ra_agg k2 k3, ?_, fun b hb => ?_, fun r b hb => hsub r b (k5 r b hb), (shp_T st _).trans k6⟩
      · rw [hrun, ← hC]; rfl
      · rcases k4 b hb with hb | ⟨r, hb⟩
        · exact ⟨_, hb⟩
        · exact ⟨r, hsub r b hb⟩
    | tup vs => simp [St.absorb] at ha
    | un => simp [St.absorb] at ha
    | sc u => exact one h2 ha
    | lst e es c => exact one h2 ha
    | own e es => exact one h2 ha
    | arr r c p e off n cl => exact one h2 ha
    | eptr r c p i j => simp [St.absorb] at ha
    | lptr e j => simp [St.absorb] at ha
    | bptr l k c => exact one h2 ha
    | fn g cs => exact one h2 ha
  | c b sz ag =>
    cases r with
    | tmp t => exact hx.elim
    | cell b' t =>
    obtain ⟨hb', hsz, hag⟩ := hx
    subst hb'
    simp only [St.retv] at ha
    split at ha
    rotate_left
    · cases ha
    rename_i l k c hT
    split at ha
    rotate_left
    · cases ha
    rename_i cs hbox
    split at ha
    rotate_left
    · cases ha
    rename_i xs hsub
    split at ha
    rotate_left
    · cases ha
    rename_i hdat
    split at ha
    rotate_left
    · cases ha
    rename_i pv hp
    simp only [Option.some.injEq, Prod.mk.injEq] at ha
    obtain ⟨rfl, rfl⟩ := ha
    have hs := h.slots b'
    rw [hT] at hs
    have hptr : a.tmps.getD b' undef = .pointer (some ⟨ρ l k, c, none⟩) := by
      rcases hs with ⟨⟨hs, _⟩, _⟩ | hs
      · exact hs
      · cases hs
    obtain ⟨fp', fx, us, C, ty, k1, k2, k3, k4, k5, k6, k7, k8⟩ := h.takeBox hbox hsub
    have hlen := k2.len
    have hxl : xs.length = sz := by
      have hCs : C.toList.length = C.size := Array.length_toList
      rw [hlen, k4, List.length_take, List.length_drop]; omega
    have hdat' : ∀ y ∈ xs, y.isData = true := by simpa using hdat
    have hcells : ∀ j u, us[j]? = some u → w.cell? ((⟨ρ l k, c, none⟩ : Addr).add j) = some u := by
      intro j u hj
      have hjl : j < sz := by
        rcases Nat.lt_or_ge j sz with hh | hh
        · exact hh
        · rw [List.getElem?_eq_none (by omega)] at hj; cases hj
      rw [k4, drop_take_get hjl] at hj
      rw [addr_add, cell_of k3, hj]
    have hrc : Cat (RC cx w F ρ { st.setBox l k (splice cs c (List.replicate sz .un)) with T := killRt (.B l k) st.T } noLk) xs us fx :=
      k2.mono fun x u f _ hx hm => (hx.lv (ρ' := ρ) (st' := { st.setBox l k (splice cs c (List.replicate sz .un)) with T := killRt (.B l k) st.T }) (fun l' k' _ hb => ⟨rfl, k8.box hb⟩)).isData_rc (hdat' x hm)
    rcases pack_some hp with ⟨rfl, rfl⟩ | ⟨rfl, y, rfl, rfl⟩
    · refine ⟨fp', fx, .agg us.toArray, k1, ra_agg (by simpa using hrc) (fun y hy => isData_isD (hdat' y hy)), ?_, k6, k7, k8⟩
      have := run_loadCells_list (P := cx.P) w ⟨ρ l k, c, none⟩ us hcells
      rw [← hlen, hxl] at this
      simp [resRun, hptr, asAddr, loadVar, run_isAgg hag, run_sizeOf hsz, this]
    · cases us with
      | nil => simp at hlen
      | cons u us =>
      cases us with
      | cons _ _ => simp at hlen
      | nil =>
      have hu := hcells 0 u rfl
      rw [show (⟨ρ l k, c, none⟩ : Addr).add 0 = ⟨ρ l k, c, none⟩ from rfl] at hu
      have hy : RC cx w F ρ { st.setBox l k (splice cs c (List.replicate sz .un)) with T := killRt (.B l k) st.T } noLk pv u fx := by
        generalize hx1 : [pv] = l1 at hrc
        generalize hu1 : [u] = l2 at hrc
        cases hrc with
        | nil => cases hx1
        | cons hh tt =>
          cases hx1; cases hu1
          rw [tt.nil_inv.2]; simpa using hh
      refine ⟨fp', fx, u, k1, ra_one hy (isData_isD (hdat' pv (by simp))), ?_, k6, k7, k8⟩
      simp [resRun, hptr, asAddr, loadVar, run_isAgg hag, run_load, hu]

theorem retvs_rel : ∀ {rs : List ResultVar} {xs : List RVar} {X : List Nat} {fp : Fp} {st st' : St} {vs : List IV}, Rel cx w F ρ fp X st (regs a) → okRess cx.P rs xs → st.retvs xs = some (vs, st') →
    ∃ fp' fv us, Rel cx w F ρ fp' (fv ++ X) st' (regs a) ∧ Cat (RA cx w F ρ st') vs us fv ∧ (rs.mapM (resRun a)).run cx.P w = .ok us w ∧ (∀ b ∈ fv, ∃ r, b ∈ fp r) ∧ (∀ r, ∀ b ∈ fp' r, b ∈ fp r) ∧ ShpLe st st'
  | [], [], X, fp, st, st', vs, h, _, ha => by
    simp only [St.retvs, Option.some.injEq, Prod.mk.injEq] at ha
    obtain ⟨rfl, rfl⟩ := ha
    exact ⟨fp, [], [], h, .nil, by simp, by simp, fun _ _ h => h, .refl _⟩
  | [], _ :: _, _, _, _, _, _, _, hk, _ => hk.elim
  | _ :: _, [], _, _, _, _, _, _, hk, _ => hk.elim
  | r :: rs, x :: xs, X, fp, st, st', vs, h, hk, ha => by
    simp only [St.retvs] at ha
    cases h1 : st.retv x with
    | none => simp [h1] at ha
    | some p =>
    obtain ⟨v1, st1⟩ := p
    simp only [h1] at ha
    cases h2 : st1.retvs xs with
    | none => simp [h2] at ha
    | some p =>
    obtain ⟨vs2, st2⟩ := p
    simp only [h2, Option.some.injEq, Prod.mk.injEq] at ha
    obtain ⟨rfl, rfl⟩ := ha
    obtain ⟨fp1, fv1, u1, k1, k2, k3, k4, k5, k6⟩ := retv_rel h hk.1 h1
    obtain ⟨fp2, fv2, us2, q1, q2, q3, q4, q5, q6⟩ := retvs_rel k1 hk.2 h2
    refine ⟨fp2, fv1 ++ fv2, u1 :: us2, q1.perm ?_, Cat.cons (k2.keep q6) q2, ?_, fun b hb => ?_, fun r b hb => k5 r b (q5 r b hb), k6.trans q6⟩
    · rw [← List.append_assoc]
      exact List.Perm.append_right X List.perm_append_comm
    · rw [List.mapM_cons]
      simp [Sem.run_bind, k3, q3]
    · rcases List.mem_append.1 hb with hb | hb
      · exact k4 b hb
      · obtain ⟨r, hb⟩ := q4 b hb
        exact ⟨r, k5 r b hb⟩

def packU : List Value → Value
  | [u] => u
  | us => .tuple us.toArray

theorem results_run {fn : Func} {us : List Value} (h : (fn.results.toList.mapM (resRun a)).run cx.P w = .ok us w) :
    (results fn a.tmps).run cx.P w = .ok (packU us) w := by
  have h1 : (fn.results.mapM (resRun a)).run cx.P w = .ok us.toArray w := by
    rw [Array.mapM_eq_mapM_toList]
    simp [h]
  have h2 : (results fn a.tmps) = (do let vs ← fn.results.mapM (resRun a); pure (if h : vs.size = 1 then vs[0] else .tuple vs)) := by
    unfold results
    have : (fun r : ResultVar => match r with
      | .tmp t => pure (a.tmps.getD t undef)
      | .cell b t => do loadVar t (← asAddr (a.tmps.getD b undef))) = resRun a := by
      funext r
      cases r <;> rfl
    rw [← this]
    rfl
  rw [h2, Sem.run_bind, h1, Result.andThen_ok]
  cases us with
  | nil => rfl
  | cons u us =>
    cases us with
    | nil => rfl
    | cons v r => rfl

end
end Go.Idl

/- What a call hands back. Conditions: none (lemmas). -/
namespace Go.Idl
open Go

section
variable {cx : Cx} {w w' : World} {F F' : Nat → Prop} {ρ ρ' : Rho} {fp fp' : Fp} {X f f' fy Xb fv : List Nat} {st st' : St} {a : Act} {tm : Nat → Value} {v : IV}

theorem backs_rel : ∀ {lent : List Nat} {X : List Nat} {fp : Fp} {st st' : St} {back : List IV} {vs : List Value}, Rel cx w F ρ fp X st (regs a) → st.backs lent = some (back, st') → (∀ s ∈ lent, regs a s = vs.getD s undef) →
    ∃ fp' Xb, Rel cx w F ρ fp' (Xb ++ X) st' (regs a) ∧ BackR w F vs lent back Xb ∧ (∀ b ∈ Xb, ∃ r, b ∈ fp r) ∧ (∀ r, ∀ b ∈ fp' r, b ∈ fp r) ∧ ShpLe st st' ∧ st'.M = st.M ∧ st'.loc = st.loc
  | [], X, fp, st, st', back, vs, h, ha, _ => by
    simp only [St.backs, Option.some.injEq, Prod.mk.injEq] at ha
    obtain ⟨rfl, rfl⟩ := ha
    exact ⟨fp, [], h, rfl, by simp, fun _ _ h => h, .refl _, rfl, rfl⟩
  | s :: lent, X, fp, st, st', back, vs, h, ha, hv => by
    simp only [St.backs] at ha
    split at ha
    rotate_left
    · cases ha
    rename_i e es hT
    split at ha
    rotate_left
    · cases ha
    rename_i ys st2 hb
    simp only [Option.some.injEq, Prod.mk.injEq] at ha
    obtain ⟨rfl, rfl⟩ := ha
    obtain ⟨h1, h2⟩ := h.drop s
    rw [hT] at h2
    have hkl : kl (IV.rooted (.S s)) (.own e es) = .own e es := rfl
    rw [hkl] at h2
    have hd : RDs w F [.own e es] [regs a s] (fp (.S s)) := by
      rcases h2 with ⟨h2, _⟩ | h2
      · exact h2.elim
      · exact h2
    have hsub : ∀ r, ∀ b ∈ updFp fp (.S s) [] r, b ∈ fp r := fun r b hb => by
      unfold updFp at hb; split at hb
      · cases hb
      · exact hb
    obtain ⟨fp', Xb, k1, k2, k3, k4, k5, k6, k7⟩ := backs_rel h1 hb (fun s' hs' => hv s' (by simp [hs']))
    refine ⟨fp', fp (.S s) ++ Xb, k1.perm ?_, ⟨fp (.S s), Xb, rfl, by rw [← hv s (by simp)]; exact hd, k2⟩, fun b hb => ?_, fun r b hb => hsub r b (k4 r b hb), (shp_T st _).trans k5, k6, k7⟩
    · rw [← List.append_assoc]
      exact List.Perm.append_right X List.perm_append_comm
    · rcases List.mem_append.1 hb with hb | hb
      · exact ⟨_, hb⟩
      · obtain ⟨r, hb⟩ := k3 b hb
        exact ⟨r, hsub r b hb⟩

/-- A value that names no box of the level L or above. -/
def IV.okLvl (L : Nat) : IV → Bool
  | .agg cs => cs.all IV.isData
  | x => x.lvl L

theorem isData_rds {lk} {x : IV} {u : Value} (h : RC cx w F ρ st lk x u f) (hd : x.isData = true) : RDs w F [x] [u] f := by
  rcases h with ⟨h, _⟩ | h
  · cases x <;> first | (simp [IV.isData] at hd; done) | exact h.elim
  · exact h

theorem RA.lv {L : Nat} {lk} {x : IV} {u : Value} (h : RA cx w F ρ st x u f) (hx : x.okLvl L = true) (hb : ∀ l k, l < L → (st.box l k).isSome = true → ρ' l k = ρ l k ∧ (st'.box l k).isSome = true) : RComp cx w F ρ' st' lk x u f := by
  obtain ⟨h, hA⟩ := h
  cases x with
  | agg cs =>
    obtain ⟨C, rfl, hc⟩ := h
    refine ⟨C, rfl, hc.mono fun x v f _ hz hm => .inr (isData_rds hz ?_)⟩
    exact List.all_eq_true.1 hx x hm
  | sc u => exact .inr (isData_rds h rfl)
  | lst e es c => exact .inr (isData_rds h rfl)
  | own e es => exact .inr (isData_rds h rfl)
  | bptr l k c =>
    rcases h with ⟨⟨h1, h2⟩, h3⟩ | h
    · have hl : l < L := by simpa [IV.okLvl, IV.lvl] using hx
      obtain ⟨k1, k2⟩ := hb l k hl h2
      exact .inl ⟨⟨by rw [k1]; exact h1, k2⟩, h3⟩
    · cases h
  | fn g caps =>
    rcases h with ⟨⟨cvs, h1, h2⟩, h3⟩ | h
    · refine .inl ⟨⟨cvs, h1, h2.mono fun z v f _ hz hm => ⟨?_, hz.2⟩⟩, h3⟩
      have hz2 := List.all_eq_true.1 hx z hm
      cases z with
      | bptr l' k c =>
        obtain ⟨⟨h5, h6⟩, _⟩ := hz
        have hl : l' < L := by simpa using hz2
        obtain ⟨k1, k2⟩ := hb l' k hl h6
        exact ⟨by rw [k1]; exact h5, k2⟩
      | _ => exact hz.1.elim
    · cases h
  | _ => simp [IV.isA, IV.isD] at hA

/-- The frame is left: one box of it may go with the result. -/
theorem Rel.leaveR (h : Rel cx w F ρ fp (Xb ++ fv) st (regs a)) {v : IV} {u : Value} {back : List IV} {e : Option Nat} {exp : Boxes}
    (he : (e = none ∧ exp = []) ∨ (∃ k0 cs, e = some k0 ∧ st.loc[k0]? = some cs ∧ cs.all IV.isData = true ∧ exp = [cs]))
    (hv : ∀ (ρ' : Rho) lk, (∀ l k, l < st.M.length → ρ' l k = ρ l k) → (∀ k0, e = some k0 → ρ' st.M.length 0 = ρ st.M.length k0) → RSlot cx w F ρ' (retSt ⟨v, back, st.M, exp⟩) lk v u fv) :
    ∃ ρ' fp', Rel cx w F ρ' fp' Xb (retSt ⟨v, back, st.M, exp⟩) (retTm u) ∧ (∀ q, ∀ b ∈ fp' q, (∃ r, b ∈ fp r) ∨ b ∈ fv) ∧ ∀ l k, l < st.M.length → ρ' l k = ρ l k := by
  let L := st.M.length
  let ρN : Rho := fun l k => if l = L then ρ L (e.getD 0) else ρ l k
  let rt : Rt → Option Rt := fun
    | .S _ => none
    | .B l k => if l < L then some (.B l k) else if l = L ∧ k = 0 then e.map (.B L ·) else none
  let fpN : Fp := fun
    | .S s => if s = 0 then fv else []
    | .B l k => match rt (.B l k) with
      | some q => fp q
      | none => []
  have hρ : ∀ l k, l < L → ρN l k = ρ l k := fun l k hl => by
    have : l ≠ L := by omega
    simp [ρN, this]
  have hρe : ∀ k0, e = some k0 → ρN L 0 = ρ L k0 := fun k0 hk => by simp [ρN, hk]
  have hbox1 : ∀ l k, l < L → (retSt ⟨v, back, st.M, exp⟩).box l k = st.box l k := fun l k hl => by
    have : l ≠ st.M.length := by show l ≠ L; omega
    simp [retSt, St.box, this]
  have hbox2 : ∀ k, (retSt ⟨v, back, st.M, exp⟩).box L k = exp[k]? := fun k => by simp [retSt, St.box, L]
  have hbox3 : ∀ l k, L < l → (retSt ⟨v, back, st.M, exp⟩).box l k = none := fun l k hl => by
    have h1 : l ≠ st.M.length := by show l ≠ L; omega
    have h2 : st.M[l]? = none := List.getElem?_eq_none (by show L ≤ l; omega)
    simp [retSt, St.box, h1, h2]
  have hstL : ∀ k, st.box L k = st.loc[k]? := fun k => by simp [St.box, L]
  -- where a root of the new state comes from
  have hfp : ∀ q b, b ∈ fpN q → (∃ r, rt q = some r ∧ b ∈ fp r) ∨ (q = .S 0 ∧ b ∈ fv) := by
    intro q b hb
    cases q with
    | S s =>
      by_cases hs : s = 0
      · subst hs; exact .inr ⟨rfl, by simpa [fpN] using hb⟩
      · simp [fpN, hs] at hb
    | B l k =>
      simp only [fpN] at hb
      split at hb
      · rename_i q hq; exact .inl ⟨q, hq, hb⟩
      · cases hb
  have hrt : ∀ q q' r, rt q = some r → rt q' = some r → q = q' := by
    intro q q' r h1 h2
    cases q with
    | S s => simp [rt] at h1
    | B l k =>
      cases q' with
      | S s => simp [rt] at h2
      | B l' k' =>
        simp only [rt] at h1 h2
        split at h1
        · split at h2
          · rw [← h1] at h2; simp only [Option.some.injEq, Rt.B.injEq] at h2; obtain ⟨rfl, rfl⟩ := h2; rfl
          · split at h2
            · cases e with
              | none => simp at h2
              | some k0 =>
                simp only [Option.map_some, Option.some.injEq] at h1 h2
                rw [← h1] at h2
                simp only [Rt.B.injEq] at h2
                omega
            · cases h2
        · split at h1
          · rename_i hlk
            split at h2
            · cases e with
              | none => simp at h1
              | some k0 =>
                simp only [Option.map_some, Option.some.injEq] at h1 h2
                rw [← h1] at h2
                simp only [Rt.B.injEq] at h2
                omega
            · split at h2
              · rename_i hlk'
                rw [hlk.1, hlk.2, hlk'.1, hlk'.2]
              · cases h2
          · cases h1
  have hX := List.nodup_append.1 h.xnodup
  have hXb : ∀ b ∈ Xb, b ∈ Xb ++ fv := fun b hb => by simp [hb]
  have hXv : ∀ b ∈ fv, b ∈ Xb ++ fv := fun b hb => by simp [hb]
  have hrd : ∀ (l : Nat) {x : IV} {u : Value} {g : List Nat}, l < L → RBox cx w F ρ st l x u g → RBox cx w F ρN (retSt ⟨v, back, st.M, exp⟩) l x u g := fun l x u g hl hx =>
    hx.lv fun l' k' hl' hb => ⟨hρ l' k' (by omega), by rw [hbox1 l' k' (by omega)]; exact hb⟩
  refine ⟨ρN, fpN, ⟨fun s => ?_, fun l k cs hb => ?_, fun l k hb => ?_, fun q => ?_, fun q q' hq b hb hb' => ?_, fun q b hb => ?_, fun q b hb => ?_, h.Flt, hX.1, fun q b hb hx => ?_, fun b hb => h.xF b (hXb b hb), fun b hb => h.xlt b (hXb b hb)⟩, fun q b hb => ?_, hρ⟩
  · by_cases hs : s = 0
    · subst hs
      have := hv ρN (look (retSt ⟨v, back, st.M, exp⟩) (retTm u) ρN w) hρ hρe
      simpa [retSt, tget, retTm, fpN] using this
    · have h1 : tget (retSt ⟨v, back, st.M, exp⟩).T s = .un := by
        have : ¬ (0 = s) := fun h => hs h.symm
        simp [retSt, tget, this]
      rw [h1, show fpN (.S s) = [] from by simp [fpN, hs]]
      exact rcomp_un
  · rcases Nat.lt_trichotomy l L with hl | hl | hl
    · rw [hbox1 l k hl] at hb
      obtain ⟨C, ty, f0, k1, k2, k3⟩ := h.boxes l k cs hb
      refine ⟨C, ty, f0, ?_, by rw [hρ l k hl]; exact k2, k3.mono fun x v f _ hx _ => hrd l hl hx⟩
      rw [hρ l k hl, ← k1]
      simp [fpN, rt, hl]
    · subst hl
      rw [hbox2 k] at hb
      rcases he with ⟨_, rfl⟩ | ⟨k0, cs0, rfl, hk0, hdat, rfl⟩
      · simp at hb
      · cases k with
        | succ k => simp at hb
        | zero =>
          simp only [List.getElem?_cons_zero, Option.some.injEq] at hb
          subst hb
          obtain ⟨C, ty, f0, k1, k2, k3⟩ := h.boxes L k0 cs0 (by rw [hstL]; exact hk0)
          refine ⟨C, ty, f0, ?_, by rw [hρe k0 rfl]; exact k2, k3.mono fun x v f _ hx hm => hx.data (List.all_eq_true.1 hdat x hm)⟩
          rw [hρe k0 rfl, ← k1]
          simp [fpN, rt]
    · rw [hbox3 l k hl] at hb; cases hb
  · rcases Nat.lt_trichotomy l L with hl | hl | hl
    · rw [hbox1 l k hl] at hb
      have := h.nobox l k hb
      simpa [fpN, rt, hl] using this
    · subst hl
      rw [hbox2 k] at hb
      rcases he with ⟨rfl, rfl⟩ | ⟨k0, cs0, rfl, hk0, hdat, rfl⟩
      · simp [fpN, rt]
      · cases k with
        | succ k => simp [fpN, rt]
        | zero => simp at hb
    · have h1 : ¬ l < L := by omega
      have h2 : ¬ l = L := by omega
      simp [fpN, rt, h1, h2]
  · cases q with
    | S s => by_cases hs : s = 0
             · subst hs; simpa [fpN] using hX.2.1
             · simp [fpN, hs]
    | B l k =>
      simp only [fpN]
      split
      · exact h.nodup _
      · exact List.nodup_nil
  · rcases hfp q b hb with ⟨r, h1, h2⟩ | ⟨rfl, h2⟩
    · rcases hfp q' b hb' with ⟨r', h3, h4⟩ | ⟨rfl, h4⟩
      · by_cases hrr : r = r'
        · subst hrr; exact hq (hrt q q' r h1 h3)
        · exact h.disj r r' hrr b h2 h4
      · exact h.xdisj r b h2 (hXv b h4)
    · rcases hfp q' b hb' with ⟨r', h3, h4⟩ | ⟨rfl, h4⟩
      · exact h.xdisj r' b h4 (hXv b h2)
      · exact hq rfl
  · rcases hfp q b hb with ⟨r, h1, h2⟩ | ⟨rfl, h2⟩
    · exact h.notF r b h2
    · exact h.xF b (hXv b h2)
  · rcases hfp q b hb with ⟨r, h1, h2⟩ | ⟨rfl, h2⟩
    · exact h.lt r b h2
    · exact h.xlt b (hXv b h2)
  · rcases hfp q b hb with ⟨r, h1, h2⟩ | ⟨rfl, h2⟩
    · exact h.xdisj r b h2 (hXb b hx)
    · exact hX.2.2 b hx b h2 rfl
  · rcases hfp q b hb with ⟨r, h1, h2⟩ | ⟨rfl, h2⟩
    · exact .inl ⟨r, h2⟩
    · exact .inr h2

end
end Go.Idl

/- The end of a call's body: what stands behind the call. Conditions: none (lemmas). -/
namespace Go.Idl
open Go

def okRet (L : Nat) : IV → Bool
  | .tup vs => vs.all (IV.okLvl L)
  | x => x.okLvl L

theorem leave_some {st : St} {v : IV} {back : List IV} {r : Ret} (h : st.leave v back = some r) : r.back = back ∧ r.M = st.M ∧
    ((r.v = v ∧ r.exp = [] ∧ okRet st.M.length v = true) ∨ ∃ k c cs, v = .bptr st.M.length k c ∧ st.loc[k]? = some cs ∧ cs.all IV.isData = true ∧ r.v = .bptr st.M.length 0 c ∧ r.exp = [cs]) := by
  have lv : ∀ x : IV, x.lvl st.M.length = true → (∀ cs, x ≠ .agg cs) → (∀ vs, x ≠ .tup vs) → okRet st.M.length x = true := by
    intro x hx h1 h2
    cases x <;> first | exact (h1 _ rfl).elim | exact (h2 _ rfl).elim | exact hx
  cases v with
  | bptr l k c =>
    simp only [St.leave] at h
    split at h
    · rename_i hl
      split at h
      · rename_i cs hcs
        split at h
        · rename_i hd
          simp only [Option.some.injEq] at h
          subst h
          subst hl
          exact ⟨rfl, rfl, .inr ⟨k, c, cs, rfl, hcs, hd, rfl, rfl⟩⟩
        · cases h
      · cases h
    · split at h
      · rename_i hl
        simp only [Option.some.injEq] at h
        subst h
        exact ⟨rfl, rfl, .inl ⟨rfl, rfl, by simpa [okRet, IV.okLvl, IV.lvl] using hl⟩⟩
      · cases h
  | agg cs =>
    simp only [St.leave] at h
    split at h
    · rename_i hd
      simp only [Option.some.injEq] at h
      subst h
      exact ⟨rfl, rfl, .inl ⟨rfl, rfl, hd⟩⟩
    · cases h
  | tup vs =>
    simp only [St.leave] at h
    split at h
    · rename_i hd
      simp only [Option.some.injEq] at h
      subst h
      refine ⟨rfl, rfl, .inl ⟨rfl, rfl, ?_⟩⟩
      rw [List.all_eq_true] at hd
      simp only [okRet, List.all_eq_true]
      intro x hx
      have := hd x hx
      cases x <;> exact this
    · cases h
  | sc u =>
    simp only [St.leave] at h
    split at h
    · rename_i hd
      simp only [Option.some.injEq] at h
      subst h
      exact ⟨rfl, rfl, .inl ⟨rfl, rfl, hd⟩⟩
    · cases h
  | lst e es c =>
    simp only [St.leave] at h
    split at h
    · rename_i hd
      simp only [Option.some.injEq] at h
      subst h
      exact ⟨rfl, rfl, .inl ⟨rfl, rfl, hd⟩⟩
    · cases h
  | own e es =>
    simp only [St.leave] at h
    split at h
    · rename_i hd
      simp only [Option.some.injEq] at h
      subst h
      exact ⟨rfl, rfl, .inl ⟨rfl, rfl, hd⟩⟩
    · cases h
  | fn g cs =>
    simp only [St.leave] at h
    split at h
    · rename_i hd
      simp only [Option.some.injEq] at h
      subst h
      exact ⟨rfl, rfl, .inl ⟨rfl, rfl, hd⟩⟩
    · cases h
  | arr => simp [St.leave, IV.lvl] at h
  | eptr => simp [St.leave, IV.lvl] at h
  | lptr => simp [St.leave, IV.lvl] at h
  | un => simp [St.leave, IV.lvl] at h

section
variable {cx : Cx} {w w0 : World} {F F0 : Nat → Prop} {ρ ρ0 : Rho} {fp fp0 : Fp} {Xb fv : List Nat} {st st1 st2 : St} {a : Act}

theorem cat_one {R : IV → Value → List Nat → Prop} {x : IV} {us : List Value} {f : List Nat} (h : Cat R [x] us f) : ∃ u, us = [u] ∧ R x u f := by
  cases h with
  | cons h t => obtain ⟨rfl, rfl⟩ := t.nil_inv; exact ⟨_, rfl, by simpa using h⟩

theorem pack_slot {vals : List IV} {us : List Value} {st' : St} {ρ' : Rho} {lk} (hc : Cat (RA cx w F ρ st) vals us fv) (hk : okRet st.M.length (packRes vals) = true)
    (hb : ∀ l k, l < st.M.length → (st.box l k).isSome = true → ρ' l k = ρ l k ∧ (st'.box l k).isSome = true) : RSlot cx w F ρ' st' lk (packRes vals) (packU us) fv ∧ (packRes vals).isRet = true := by
  have many : ∀ {vals : List IV} {us : List Value}, Cat (RA cx w F ρ st) vals us fv → vals.all (IV.okLvl st.M.length) = true → RSlot cx w F ρ' st' lk (.tup vals) (.tuple us.toArray) fv ∧ (IV.tup vals).isRet = true := by
    intro vals us hc hk
    refine ⟨⟨us.toArray, rfl, ?_⟩, ?_⟩
    · simpa using hc.mono fun x u f _ hx hm => hx.lv (List.all_eq_true.1 hk x hm) hb
    · simp only [IV.isRet, List.all_eq_true]
      intro x hx
      have : ∀ {xs us f}, Cat (RA cx w F ρ st) xs us f → ∀ x ∈ xs, x.isA = true := by
        intro xs us f hc
        induction hc with
        | nil => simp
        | cons h t ih => intro x hx; rcases List.mem_cons.1 hx with rfl | hx
                         · exact h.2
                         · exact ih x hx
      exact this hc x hx
  match vals, hc, hk with
  | [], hc, hk =>
    obtain ⟨rfl, rfl⟩ := hc.nil_inv
    exact many .nil rfl
  | [v], hc, hk =>
    obtain ⟨u, rfl, hx⟩ := cat_one hc
    have hA := hx.2
    have ht : ∀ vs, v ≠ .tup vs := fun vs he => by rw [he] at hA; simp [IV.isA, IV.isD] at hA
    have hk' : v.okLvl st.M.length = true := by
      simp only [packRes] at hk
      cases v <;> first | exact (ht _ rfl).elim | exact hk
    refine ⟨rcomp_slot (hx.lv hk' hb), ?_⟩
    simp only [packRes]
    cases v <;> first | exact (ht _ rfl).elim | exact hA
  | v1 :: v2 :: r, hc, hk =>
    have hl := hc.len
    match us, hl with
    | u1 :: u2 :: s, _ => exact many hc hk

theorem leave_ok {P : Program} {fn : Func} {f : IFun} {args : List IV} {M : List Boxes} {lent : List Nat} {vs : List Value} {r : Ret} (hP : cx.P = P) (hR : Rel cx w F ρ fp [] st (regs a))
    (hE : Ext w0 F0 ρ0 fp0 [] (exB (argSt args M)) w F ρ fp []) (hS : ShpLe (argSt args M) st) (hres : okRess P fn.results.toList f.res) (hkeep : ∀ s ∈ lent, regs a s = vs.getD s undef)
    {vals : List IV} (h1 : st.retvs f.res = some (vals, st1)) {back : List IV} (h2 : st1.backs lent = some (back, st2)) (h3 : st2.leave (packRes vals) back = some r) :
    ∃ u, (results fn a.tmps).run P w = .ok u w ∧ RetPost cx w0 F0 ρ0 fp0 M lent vs r (.returned u) w := by
  subst hP
  obtain ⟨fp1, fv, us, a1, a2, a3, a4, a5, a6⟩ := retvs_rel hR hres h1
  obtain ⟨fp2, Xb, b1, b2, b3, b4, b5, b6, b7⟩ := backs_rel a1 h2 hkeep
  rw [List.append_nil] at b1
  have hvals : Cat (RA cx w F ρ st2) vals us fv := a2.mono fun x u f _ hx _ => hx.keep b5
  have hM2 : st2.M.map List.length = M.map List.length := by
    rw [b5.M, a6.M, hS.M]; rfl
  have hML : st2.M.length = M.length := by
    have := congrArg List.length hM2
    simpa using this
  have hsub2 : ∀ r, ∀ b ∈ fp2 r, b ∈ fp r := fun r b hb => a5 r b (b4 r b hb)
  have hXbs : ∀ b ∈ Xb, ∃ r, b ∈ fp r := fun b hb => by obtain ⟨r, hb⟩ := b3 b hb; exact ⟨r, a5 r b hb⟩
  -- boxes of the levels below
  have hbx : ∀ l k, (({ T := [], loc := [], M := M } : St).box l k).isSome = true → l < M.length ∧ exB (argSt args M) l k := by
    intro l k hb
    have hl : l < M.length := by
      rcases Nat.lt_trichotomy l M.length with hl | hl | hl
      · exact hl
      · subst hl; simp [St.box] at hb
      · have h0 : l ≠ M.length := by omega
        have : M[l]? = none := List.getElem?_eq_none (by omega)
        simp [St.box, h0, this] at hb
    exact ⟨hl, hb⟩
  -- the conclusion, once the frame is left
  have fin : ∀ {v : IV} {exp : Boxes} {ρ' : Rho} {fp' : Fp}, r = ⟨v, back, st2.M, exp⟩ → Rel cx w F ρ' fp' Xb (retSt ⟨v, back, st2.M, exp⟩) (retTm (packU us)) → (∀ q, ∀ b ∈ fp' q, (∃ r, b ∈ fp2 r) ∨ b ∈ fv) → (∀ l k, l < st2.M.length → ρ' l k = ρ l k) →
      v.isRet = true → exp.all (·.all IV.isData) = true → RetPost cx w0 F0 ρ0 fp0 M lent vs r (.returned (packU us)) w := by
    intro v exp ρ' fp' hr q1 q2 q3 q4 q5
    subst hr
    have hsrc : ∀ q, ∀ b ∈ fp' q, ∃ r, b ∈ fp r := fun q b hb => by
      rcases q2 q b hb with ⟨r, hb⟩ | hb
      · exact ⟨r, hsub2 r b hb⟩
      · exact a4 b hb
    refine ⟨packU us, F, ρ', fp', Xb, rfl, q1, ⟨hE.size, hE.keep, fun q b hb => ?_, fun b hb => ?_, hE.Fm, hE.Fn, fun l k hb => ?_, hE.env⟩, hM2, b2, q4, q5⟩
    · obtain ⟨r, hb⟩ := hsrc q b hb; exact hE.fpn r b hb
    · obtain ⟨r, hb⟩ := hXbs b hb; exact hE.fpn r b hb
    · obtain ⟨k1, k2⟩ := hbx l k hb
      rw [q3 l k (by omega)]
      exact hE.rho l k k2
  refine ⟨packU us, results_run a3, ?_⟩
  obtain ⟨c1, c2, c3⟩ := leave_some h3
  obtain ⟨rv, rb, rM, rexp⟩ := r
  simp only at c1 c2 c3
  subst c1 c2
  rcases c3 with ⟨rfl, rfl, hok⟩ | ⟨k, c, cs, hv, hloc, hdat, rfl, rfl⟩
  · have hslot : ∀ (ρ' : Rho) lk, (∀ l k, l < st2.M.length → ρ' l k = ρ l k) → RSlot cx w F ρ' (retSt ⟨packRes vals, rb, st2.M, []⟩) lk (packRes vals) (packU us) fv ∧ (packRes vals).isRet = true := by
      intro ρ' lk hρ
      refine pack_slot hvals hok fun l k hl hb => ⟨hρ l k hl, ?_⟩
      have : l ≠ st2.M.length := by omega
      simpa [retSt, St.box, this] using hb
    obtain ⟨ρ', fp', q1, q2, q3⟩ := b1.leaveR (v := packRes vals) (u := packU us) (back := rb) (e := none) (exp := []) (.inl ⟨rfl, rfl⟩) (fun ρ' lk hρ _ => (hslot ρ' lk hρ).1)
    exact fin rfl q1 q2 q3 (hslot ρ (fun _ _ => none) (fun _ _ _ => rfl)).2 rfl
  · have hone : vals = [.bptr st2.M.length k c] := by
      match vals, hv with
      | [v], hv => simp only [packRes] at hv; rw [hv]
      | [], hv => simp [packRes] at hv
      | _ :: _ :: _, hv => simp [packRes] at hv
    subst hone
    obtain ⟨u, rfl, hx⟩ := cat_one hvals
    obtain ⟨hp, hfv⟩ : u = .pointer (some ⟨ρ st2.M.length k, c, none⟩) ∧ fv = [] := by
      rcases hx.1 with ⟨⟨hx, _⟩, h0⟩ | hx
      · exact ⟨hx, h0⟩
      · cases hx
    have hslot : ∀ (ρ' : Rho) lk, (∀ k0, some k = some k0 → ρ' st2.M.length 0 = ρ st2.M.length k0) → RSlot cx w F ρ' (retSt ⟨.bptr st2.M.length 0 c, rb, st2.M, [cs]⟩) lk (.bptr st2.M.length 0 c) u fv := by
      intro ρ' lk he
      refine .inl ⟨⟨?_, by simp [retSt, St.box]⟩, hfv⟩
      rw [he k rfl]; exact hp
    obtain ⟨ρ', fp', q1, q2, q3⟩ := b1.leaveR (v := .bptr st2.M.length 0 c) (u := u) (back := rb) (e := some k) (exp := [cs]) (.inr ⟨k, cs, rfl, hloc, hdat, rfl⟩) (fun ρ' lk _ he => hslot ρ' lk he)
    exact fin rfl q1 q2 q3 rfl (by simp [hdat])

end
end Go.Idl

/- Orders of a region, told by its ideal operations. Conditions: none (definitions and lemmas). -/
namespace Go.Idl
open Go

def opdU : Opd → List Nat
  | .t s => [s]
  | _ => []
def optU : Option Opd → List Nat
  | some o => opdU o
  | none => []
/-- The slots that an operation looks at. -/
def K.useL : K → List Nat
  | .mv x | .asg x | .asgm x | .clr x _ | .box x | .nilck x | .unop _ x | .conv _ x | .fadr _ x | .fld _ _ _ x | .extr x _ | .len x | .lens x | .load _ _ x => opdU x
  | .pick a b c => opdU a ++ (opdU b ++ opdU c)
  | .alloc _ | .halt | .nilo _ => []
  | .build _ ps => ps.flatMap fun p => opdU p.2.2
  | .bsl _ _ _ ps => ps.flatMap fun p => opdU p.2
  | .store _ a x | .storef _ a x | .bin _ a x | .eqa _ _ a x | .eqb _ a x | .iadr _ a x | .idxs a x | .app _ a x | .minmax _ a x | .mksl _ _ a x => opdU a ++ opdU x
  | .mkfn _ cs => cs.flatMap opdU
  | .slc _ x a b c => opdU x ++ (optU a ++ (optU b ++ optU c))
  | .slcs x a b => opdU x ++ (optU a ++ optU b)
  | .call _ as _ | .callq _ as => as.flatMap fun a => opdU a.2
  | .callv f as => opdU f ++ as.flatMap fun a => opdU a.2

/-- Operations that make no box and call nothing that sees boxes. -/
def monoK : K → Bool
  | .alloc _ | .box _ | .callv .. => false
  | .call _ _ p => p
  | _ => true

/-- Two states that differ at some slots that own nothing, and by boxes at the end of the frame's. -/
structure Sim (D : Nat → Prop) (P : IV → Prop) (L : Boxes) (st st' : St) : Prop where
  T : ∀ s, ¬ D s → tget st'.T s = tget st.T s
  Q : ∀ s, D s → P (tget st'.T s)
  H : ∀ s, D s → (tget st.T s).holds = false
  M : st'.M = st.M
  loc : st'.loc = st.loc ++ L

def Shp (st st' : St) : Prop := st'.M.length = st.M.length ∧ st'.loc.length = st.loc.length

theorem Shp.refl (st : St) : Shp st st := ⟨rfl, rfl⟩
theorem Shp.trans {a b c : St} (h : Shp a b) (h' : Shp b c) : Shp a c := ⟨h'.1.trans h.1, h'.2.trans h.2⟩

section
variable {D : Nat → Prop} {P : IV → Prop} {L : Boxes} {st st' st1 : St}

theorem klc_holds {p : IV → Bool} {x : IV} (h : x.isOwn = false) : (klc p x).isOwn = false := by
  unfold klc; split
  · rfl
  · exact h
theorem kl_holds {p : IV → Bool} {x : IV} (h : x.holds = false) : (kl p x).holds = false := by
  cases x with
  | tup vs => simp [IV.holds] at h
  | agg cs =>
    simp only [IV.holds, kl, kl1] at h ⊢
    rw [List.any_eq_false] at h ⊢
    intro y hy
    obtain ⟨z, hz, rfl⟩ := List.mem_map.1 hy
    have := h z hz
    simp only [Bool.not_eq_true] at this ⊢
    exact klc_holds this
  | own e es => simp [IV.holds] at h
  | _ => simp only [kl, kl1, klc]; split <;> rfl

theorem Sim.kill (h : Sim D P L st st') (hP : ∀ q, KillOK q → ∀ x, P x → P (kl q x)) {q : IV → Bool} (hq : KillOK q) : Sim D P L { st with T := killBy q st.T } { st' with T := killBy q st'.T } :=
  ⟨fun s hs => by simp only [tget_killBy, h.T s hs], fun s hs => by simp only [tget_killBy]; exact hP q hq _ (h.Q s hs), fun s hs => by simp only [tget_killBy]; exact kl_holds (h.H s hs), h.M, h.loc⟩

theorem Sim.cons (h : Sim D P L st st') {s : Nat} (hs : ¬ D s) (v : IV) : Sim D P L { st with T := (s, v) :: st.T } { st' with T := (s, v) :: st'.T } := by
  refine ⟨fun t ht => ?_, fun t ht => ?_, fun t ht => ?_, h.M, h.loc⟩
  · simp only [tget]; split
    · rfl
    · exact h.T t ht
  · simp only [tget]; split
    · rename_i he; exact absurd (he ▸ ht) hs
    · exact h.Q t ht
  · simp only [tget]; split
    · rename_i he; exact absurd (he ▸ ht) hs
    · exact h.H t ht

theorem Sim.dropSlot (h : Sim D P L st st') (hP : ∀ q, KillOK q → ∀ x, P x → P (kl q x)) {s : Nat} (hs : ¬ D s) : Sim D P L { st with T := dropSlot s st.T } { st' with T := dropSlot s st'.T } :=
  (h.kill hP (.rooted (.S s))).cons hs .un

theorem Sim.tput (h : Sim D P L st st') (hP : ∀ q, KillOK q → ∀ x, P x → P (kl q x)) {s : Nat} (hs : ¬ D s) (v : IV) : Sim D P L { st with T := tput st.T s v } { st' with T := tput st'.T s v } := by
  unfold Idl.tput
  rw [h.T s hs]
  split
  · exact (h.kill hP (.rooted (.S s))).cons hs _
  · exact h.cons hs v

theorem Sim.putI (h : Sim D P L st st') (hP : ∀ q, KillOK q → ∀ x, P x → P (kl q x)) {d : Option Nat} (hs : ∀ s, d = some s → ¬ D s) (v : IV) : Sim D P L (match d with | some s => { st with T := Idl.tput st.T s v } | none => st) (match d with | some s => { st' with T := Idl.tput st'.T s v } | none => st') := by
  cases d with
  | none => exact h
  | some s => exact h.tput hP (hs s rfl) v

abbrev NoU (D : Nat → Prop) (l : List Nat) : Prop := ∀ s ∈ l, ¬ D s

theorem Sim.rd (h : Sim D P L st st') {o : Opd} (ho : NoU D (opdU o)) : rd st'.T o = rd st.T o := by
  cases o with
  | t s => simp only [Idl.rd, h.T s (ho s (by simp [opdU]))]
  | c v => rfl
  | f l => rfl

theorem Sim.tk (h : Sim D P L st st') (hP : ∀ q, KillOK q → ∀ x, P x → P (kl q x)) {o : Opd} (ho : NoU D (opdU o)) {v : IV} {T : Tm} (ht : tk st.T o = (v, T)) :
    ∃ T', Idl.tk st'.T o = (v, T') ∧ Sim D P L { st with T := T } { st' with T := T' } := by
  cases o with
  | t s =>
    have hs := ho s (by simp [opdU])
    simp only [Idl.tk, h.T s hs] at ht ⊢
    split at ht
    · rename_i hh
      rw [if_pos hh]
      simp only [Prod.mk.injEq] at ht
      obtain ⟨rfl, rfl⟩ := ht
      exact ⟨_, rfl, h.dropSlot hP hs⟩
    · rename_i hh
      rw [if_neg hh]
      simp only [Prod.mk.injEq] at ht
      obtain ⟨rfl, rfl⟩ := ht
      exact ⟨_, rfl, h⟩
  | c v => simp only [Idl.tk, Prod.mk.injEq] at ht ⊢; obtain ⟨rfl, rfl⟩ := ht; exact ⟨_, ⟨rfl, rfl⟩, h⟩
  | f l => simp only [Idl.tk, Prod.mk.injEq] at ht ⊢; obtain ⟨rfl, rfl⟩ := ht; exact ⟨_, ⟨rfl, rfl⟩, h⟩

theorem Sim.box (h : Sim D P L st st') {l k : Nat} {cs : List IV} (hb : st.box l k = some cs) : st'.box l k = some cs := by
  unfold St.box at *
  rw [h.M]
  split at hb
  · rename_i hl
    rw [if_pos hl, h.loc, List.getElem?_append_left (List.getElem?_eq_some_iff.1 hb).1]; exact hb
  · rename_i hl
    rw [if_neg hl]; exact hb

theorem Sim.setBox (h : Sim D P L st st') {l k : Nat} {cs cs' : List IV} (hb : st.box l k = some cs) : Sim D P L (st.setBox l k cs') (st'.setBox l k cs') ∧ Shp st (st.setBox l k cs') := by
  unfold St.box at hb
  unfold St.setBox
  rw [h.M]
  split at hb
  · rename_i hl
    have hlt := (List.getElem?_eq_some_iff.1 hb).1
    rw [if_pos hl, if_pos hl]
    exact ⟨⟨h.T, h.Q, h.H, rfl, by simp only [h.loc]; rw [List.set_append_left _ _ hlt]⟩, ⟨rfl, by simp⟩⟩
  · rename_i hl
    rw [if_neg hl, if_neg hl]
    split at hb
    · exact ⟨⟨h.T, h.Q, h.H, by simp only [h.M], h.loc⟩, ⟨by simp, rfl⟩⟩
    · cases hb

theorem setBox_T' (st : St) (l k : Nat) (cs : List IV) : (st.setBox l k cs).T = st.T := by
  unfold St.setBox; split
  · rfl
  · split <;> rfl

theorem fol_own {x : IV} {p : Path} {e : Nat} {es : List (List IV)} (h : fol x p = some (.own e es)) : ∃ e' es', x = .own e' es' := by
  cases p with
  | nil => simp only [fol, Option.some.injEq] at h; exact ⟨_, _, h⟩
  | cons a p =>
    obtain ⟨i, j⟩ := a
    cases x <;> simp only [fol] at h <;> first | exact ⟨_, _, rfl⟩ | cases h

theorem cells_own {x : IV} {c e : Nat} {es : List (List IV)} (h : x.cells[c]? = some (.own e es)) : x.holds = true := by
  cases x with
  | agg cs =>
    simp only [IV.cells] at h
    simp only [IV.holds, List.any_eq_true]
    exact ⟨_, List.mem_of_getElem? h, rfl⟩
  | tup vs => rfl
  | own e es => rfl
  | _ => cases c <;> simp [IV.cells] at h

theorem Sim.plc (h : Sim D P L st st') {r : Rt} {c : Nat} {p : Path} {e : Nat} {es : List (List IV)} (hp : st.plc r c p = some (.own e es)) : st'.plc r c p = some (.own e es) ∧ (∀ s, r = .S s → ¬ D s) ∧ ∃ cs x, st.rcells r = some cs ∧ st'.rcells r = some cs ∧ cs[c]? = some x ∧ fol x p = some (.own e es) := by
  unfold St.plc at hp
  split at hp
  rotate_left
  · cases hp
  rename_i cs hcs
  split at hp
  rotate_left
  · cases hp
  rename_i x hx
  have hD : ∀ s, r = .S s → ¬ D s := by
    rintro s rfl hs
    simp only [St.rcells, Option.some.injEq] at hcs
    subst hcs
    obtain ⟨e', es', rfl⟩ := fol_own hp
    have := h.H s hs
    rw [cells_own hx] at this
    cases this
  have hcs' : st'.rcells r = some cs := by
    cases r with
    | S s => simp only [St.rcells, h.T s (hD s rfl)] at hcs ⊢; exact hcs
    | B l k => exact h.box hcs
  refine ⟨?_, hD, cs, x, hcs, hcs', hx, hp⟩
  unfold St.plc
  rw [hcs']; simp only [hx]; exact hp

theorem Sim.setPlc (h : Sim D P L st st') {r : Rt} {c : Nat} {p : Path} {e : Nat} {es : List (List IV)} (hp : st.plc r c p = some (.own e es)) {y : IV} (hs : st.setPlc r c p y = some st1) :
    ∃ st1', st'.setPlc r c p y = some st1' ∧ Sim D P L st1 st1' ∧ Shp st st1 := by
  obtain ⟨-, hD, cs, x, h1, h2, h3, h4⟩ := h.plc hp
  unfold St.setPlc at hs ⊢
  simp only [h1, h2, h3] at hs ⊢
  split at hs
  rotate_left
  · cases hs
  cases r with
  | S s =>
    simp only [Option.some.injEq] at hs ⊢
    subst hs
    rw [h.T s (hD s rfl)]
    exact ⟨_, rfl, h.cons (hD s rfl) _, .refl _⟩
  | B l k =>
    simp only [Option.some.injEq] at hs ⊢
    subst hs
    obtain ⟨q1, q2⟩ := h.setBox (cs' := cs.set c _) (show st.box l k = some cs from h1)
    exact ⟨_, rfl, q1, q2⟩

theorem Sim.absorb (h : Sim D P L st st') (hP : ∀ q, KillOK q → ∀ x, P x → P (kl q x)) {x y : IV} (ha : st.absorb x = some (y, st1)) : ∃ st1', st'.absorb x = some (y, st1') ∧ Sim D P L st1 st1' ∧ Shp st st1 := by
  cases x with
  | arr r c p e off n cl =>
    simp only [St.absorb] at ha ⊢
    split at ha
    rotate_left
    · cases ha
    rename_i e1 es hpl
    rw [(h.plc hpl).1]
    simp only
    split at ha
    rotate_left
    · cases ha
    rename_i hle
    rw [if_pos hle]
    split at ha
    rotate_left
    · cases ha
    rename_i st2 hs
    simp only [Option.some.injEq, Prod.mk.injEq] at ha
    obtain ⟨rfl, rfl⟩ := ha
    obtain ⟨st2', q1, q2, q3⟩ := h.setPlc hpl hs
    rw [q1]
    exact ⟨_, rfl, q2.kill hP (.rooted r), q3⟩
  | eptr r c p i j => simp [St.absorb] at ha
  | lptr e j => simp [St.absorb] at ha
  | agg cs => simp [St.absorb] at ha
  | tup vs => simp [St.absorb] at ha
  | un => simp [St.absorb] at ha
  | _ =>
    simp only [St.absorb, Option.some.injEq, Prod.mk.injEq] at ha ⊢
    obtain ⟨rfl, rfl⟩ := ha
    exact ⟨_, ⟨rfl, rfl⟩, h, .refl _⟩

theorem Sim.absorbsK (hP : ∀ q, KillOK q → ∀ x, P x → P (kl q x)) : ∀ {xs ys : List IV} {pk : IV → Bool} {st st' st1 : St}, Sim D P L st st' → st.absorbsK pk xs = some (ys, st1) → ∃ st1', st'.absorbsK pk xs = some (ys, st1') ∧ Sim D P L st1 st1' ∧ Shp st st1
  | [], ys, pk, st, st', st1, h, ha => by
    simp only [St.absorbsK, Option.some.injEq, Prod.mk.injEq] at ha ⊢
    obtain ⟨rfl, rfl⟩ := ha
    exact ⟨_, ⟨rfl, rfl⟩, h, .refl _⟩
  | x :: xs, ys, pk, st, st', st1, h, ha => by
    simp only [St.absorbsK] at ha ⊢
    split at ha
    rotate_left
    · cases ha
    rename_i y st2 h1
    obtain ⟨st2', q1, q2, q3⟩ := h.absorb hP h1
    split at ha
    rotate_left
    · cases ha
    rename_i ys2 st3 h2
    simp only [Option.some.injEq, Prod.mk.injEq] at ha
    obtain ⟨rfl, rfl⟩ := ha
    obtain ⟨st3', r1, r2, r3⟩ := Sim.absorbsK hP q2 h2
    simp only [q1, r1]
    exact ⟨_, rfl, r2, q3.trans r3⟩

theorem Sim.absorbs (h : Sim D P L st st') (hP : ∀ q, KillOK q → ∀ x, P x → P (kl q x)) {xs ys : List IV} (ha : st.absorbs xs = some (ys, st1)) : ∃ st1', st'.absorbs xs = some (ys, st1') ∧ Sim D P L st1 st1' ∧ Shp st st1 :=
  Sim.absorbsK hP h ha

theorem Sim.sview (h : Sim D P L st st') {x : IV} {r : Nat × List (List IV)} (hs : st.sview x = some r) : st'.sview x = some r := by
  cases x <;> simp only [St.sview] at hs ⊢ <;> first | exact hs | cases hs | skip
  split at hs
  rotate_left
  · cases hs
  rename_i e es hp
  rw [(h.plc hp).1]; exact hs

theorem Sim.loadCells (h : Sim D P L st st') {x : IV} {sz : Nat} {cs : List IV} (hl : st.loadCells sz x = some cs) : st'.loadCells sz x = some cs := by
  cases x <;> simp only [St.loadCells] at hl ⊢ <;> first | exact hl | cases hl | skip
  · split at hl
    rotate_left
    · cases hl
    rename_i hp
    rw [(h.plc hp).1]; exact hl
  · split at hl
    rotate_left
    · cases hl
    rename_i hb
    rw [h.box hb]; exact hl

theorem Sim.storeCells (h : Sim D P L st st') (hP : ∀ q, KillOK q → ∀ x, P x → P (kl q x)) {a : IV} {ys : List IV} (hs : st.storeCells a ys = some st1) : ∃ st1', st'.storeCells a ys = some st1' ∧ Sim D P L st1 st1' ∧ Shp st st1 := by
  unfold St.storeCells at hs ⊢
  split at hs
  · rename_i l k c
    split at hs
    rotate_left
    · cases hs
    rename_i cs hb
    simp only [h.box hb]
    split at hs
    rotate_left
    · cases hs
    rename_i old ho
    try simp only [ho]
    split at hs
    rotate_left
    · cases hs
    rename_i hl
    rw [if_pos hl]
    obtain ⟨q1, q2⟩ := h.setBox (cs' := splice cs c ys) hb
    simp only [Option.some.injEq] at hs ⊢
    subst hs
    refine ⟨_, rfl, ?_, ?_⟩
    · split
      · exact q1
      · exact q1.kill hP (.rooted _)
    · split
      · exact q2
      · exact q2
  · rename_i r c p i j
    split at hs
    · cases hs
    rename_i hd
    rw [if_neg hd]
    split at hs
    rotate_left
    · cases hs
    rename_i e es hp
    simp only [(h.plc hp).1]
    split at hs
    rotate_left
    · cases hs
    rename_i el hi
    try simp only [hi]
    split at hs
    rotate_left
    · cases hs
    rename_i old ho
    try simp only [ho]
    split at hs
    rotate_left
    · cases hs
    rename_i st2 h2
    obtain ⟨st2', q1, q2, q3⟩ := h.setPlc hp h2
    simp only [q1, Option.some.injEq] at hs ⊢
    subst hs
    refine ⟨_, rfl, ?_, ?_⟩
    · split
      · exact q2
      · exact q2.kill hP (.rooted _)
    · split
      · exact q3
      · exact q3
  · cases hs

theorem Sim.arg1 (h : Sim D P L st st') (hP : ∀ q, KillOK q → ∀ x, P x → P (kl q x)) {m : Mode} {o : Opd} (ho : NoU D (opdU o)) {v : Option IV} (ha : st.arg1 m o = some (v, st1)) : ∃ st1', st'.arg1 m o = some (v, st1') ∧ Sim D P L st1 st1' ∧ Shp st st1 := by
  cases m with
  | val => simp only [St.arg1, Option.some.injEq, Prod.mk.injEq] at ha ⊢; obtain ⟨rfl, rfl⟩ := ha; exact ⟨_, ⟨rfl, rfl⟩, h, .refl _⟩
  | rv => simp only [St.arg1, Option.some.injEq, Prod.mk.injEq] at ha ⊢; obtain ⟨rfl, rfl⟩ := ha; exact ⟨_, ⟨rfl, rfl⟩, h, .refl _⟩
  | rd =>
    simp only [St.arg1] at ha ⊢
    cases ht : Idl.tk st.T o with
    | mk x T =>
    obtain ⟨T', q1, q2⟩ := h.tk hP ho ht
    rw [ht] at ha
    rw [q1]
    cases x <;> simp only at ha ⊢ <;> try (simp only [Option.some.injEq, Prod.mk.injEq] at ha ⊢; obtain ⟨rfl, rfl⟩ := ha; exact ⟨_, ⟨rfl, rfl⟩, by first | exact q2 | exact h, .refl _⟩)
    split at ha
    · rename_i hp
      rw [if_pos hp]
      simp only [Option.some.injEq, Prod.mk.injEq] at ha ⊢; obtain ⟨rfl, rfl⟩ := ha; exact ⟨_, ⟨rfl, rfl⟩, q2, .refl _⟩
    · rename_i hp
      rw [if_neg hp]
      simp only [Option.some.injEq, Prod.mk.injEq] at ha ⊢; obtain ⟨rfl, rfl⟩ := ha; exact ⟨_, ⟨rfl, rfl⟩, h, .refl _⟩
  | tk =>
    simp only [St.arg1] at ha ⊢
    cases ht : Idl.tk st.T o with
    | mk x T =>
    obtain ⟨T', q1, q2⟩ := h.tk hP ho ht
    rw [ht] at ha
    rw [q1]
    cases x <;> simp only at ha ⊢
    case agg cs =>
      split at ha
      rotate_left
      · cases ha
      rename_i cs2 st2 h2
      obtain ⟨st2', r1, r2, r3⟩ := q2.absorbs hP h2
      simp only [r1, Option.some.injEq, Prod.mk.injEq] at ha ⊢
      obtain ⟨rfl, rfl⟩ := ha
      exact ⟨_, ⟨rfl, rfl⟩, r2, r3⟩
    all_goals
      split at ha
      rotate_left
      · cases ha
      rename_i h2
      obtain ⟨st2', r1, r2, r3⟩ := q2.absorb hP h2
      simp only [r1, Option.some.injEq, Prod.mk.injEq] at ha ⊢
      obtain ⟨rfl, rfl⟩ := ha
      exact ⟨_, ⟨rfl, rfl⟩, r2, r3⟩
  | ld =>
    simp only [St.arg1, h.rd ho] at ha ⊢
    split at ha
    rotate_left
    · cases ha
    rename_i s e n hr
    split at ha
    rotate_left
    · cases ha
    rename_i e2 es hs
    have hD : ¬ D s := fun hd => by have := h.H s hd; rw [hs] at this; cases this
    simp only [h.T s hD, hs]
    split at ha
    rotate_left
    · cases ha
    rename_i hn
    rw [if_pos hn]
    simp only [Option.some.injEq, Prod.mk.injEq] at ha ⊢
    obtain ⟨rfl, rfl⟩ := ha
    exact ⟨_, ⟨rfl, rfl⟩, h.dropSlot hP hD, .refl _⟩

theorem Sim.args1 (hP : ∀ q, KillOK q → ∀ x, P x → P (kl q x)) : ∀ {l : List (Mode × Opd)} {st st' st1 : St} {vs : List (Option IV)} {ss : List Nat}, Sim D P L st st' → NoU D (l.flatMap fun a => opdU a.2) → st.args1 l = some (vs, st1, ss) →
    ∃ st1', st'.args1 l = some (vs, st1', ss) ∧ Sim D P L st1 st1' ∧ Shp st st1 ∧ NoU D ss
  | [], st, st', st1, vs, ss, h, _, ha => by
    simp only [St.args1, Option.some.injEq, Prod.mk.injEq] at ha ⊢
    obtain ⟨rfl, rfl, rfl⟩ := ha
    exact ⟨_, ⟨rfl, rfl, rfl⟩, h, .refl _, fun s hs => by cases hs⟩
  | (m, o) :: l, st, st', st1, vs, ss, h, ho, ha => by
    have ho1 : NoU D (opdU o) := fun s hs => ho s (by simp [hs])
    have ho2 : NoU D (l.flatMap fun a => opdU a.2) := fun s hs => ho s (by rw [List.flatMap_cons]; simp [hs])
    simp only [St.args1] at ha ⊢
    split at ha
    rotate_left
    · cases ha
    rename_i v st2 h1
    obtain ⟨st2', q1, q2, q3⟩ := h.arg1 hP ho1 h1
    split at ha
    rotate_left
    · cases ha
    rename_i vs2 st3 ss2 h2
    obtain ⟨st3', r1, r2, r3, r4⟩ := Sim.args1 hP q2 ho2 h2
    simp only [Option.some.injEq, Prod.mk.injEq] at ha
    obtain ⟨rfl, rfl, rfl⟩ := ha
    have hl : ldSlot st'.T m o = ldSlot st.T m o := by
      unfold ldSlot
      cases m <;> simp only [h.rd ho1]
    simp only [q1, r1, hl]
    refine ⟨_, rfl, r2, q3.trans r3, fun s hs => ?_⟩
    rcases List.mem_append.1 hs with hs | hs
    · -- the slot that is lent holds something
      intro hd
      cases m <;> simp only [ldSlot] at hs <;> try (cases hs; done)
      simp only [St.arg1] at h1
      split at h1
      rotate_left
      · cases h1
      rename_i s2 e n hr
      rw [hr] at hs
      simp only [List.mem_cons, List.not_mem_nil, or_false] at hs
      subst hs
      split at h1
      rotate_left
      · cases h1
      rename_i hs2
      have := h.H s hd
      rw [hs2] at this
      cases this
    · exact r4 s hs

theorem Sim.seen (h : Sim D P L st st') {x : IV} {r : IV × Bool} (hs : st.seen x = some r) : st'.seen x = some r := by
  unfold St.seen at *
  split at hs
  · rename_i hp; rw [if_pos hp]; exact hs
  · rename_i hp; rw [if_neg hp]
    split at hs
    rotate_left
    · cases hs
    rename_i hv
    rw [h.sview hv]; exact hs
theorem Sim.seens (h : Sim D P L st st') : ∀ {xs : List IV} {r : List IV × Bool}, st.seens xs = some r → st'.seens xs = some r
  | [], r, hs => hs
  | x :: xs, r, hs => by
    simp only [St.seens] at hs ⊢
    split at hs
    rotate_left
    · cases hs
    rename_i h1
    rw [h.seen h1]
    simp only
    split at hs
    rotate_left
    · cases hs
    rename_i h2
    rw [h.seens h2]; exact hs
theorem Sim.arg2 (h : Sim D P L st st') {m : Mode} {o : Opd} (ho : NoU D (opdU o)) {r : IV × Bool} (ha : st.arg2 m o = some r) : st'.arg2 m o = some r := by
  cases m <;> simp only [St.arg2, h.rd ho] at ha ⊢ <;> try exact ha
  all_goals
    split at ha
    · split at ha
      rotate_left
      · cases ha
      rename_i hs
      rw [h.seens hs]; exact ha
    · exact h.seen ha
theorem Sim.args2 (h : Sim D P L st st') : ∀ {l : List (Mode × Opd)} {vs : List (Option IV)} {r : List IV × Bool}, NoU D (l.flatMap fun a => opdU a.2) → st.args2 l vs = some r → st'.args2 l vs = some r
  | [], [], r, _, ha => ha
  | [], _ :: _, r, _, ha => by simp [St.args2] at ha
  | a :: l, [], r, _, ha => by simp [St.args2] at ha
  | a :: l, some v :: vs, r, ho, ha => by
    have ho2 : NoU D (l.flatMap fun a => opdU a.2) := fun s hs => ho s (by rw [List.flatMap_cons]; simp [hs])
    simp only [St.args2] at ha ⊢
    split at ha
    rotate_left
    · cases ha
    rename_i h1
    rw [h.args2 ho2 h1]; exact ha
  | (m, o) :: l, none :: vs, r, ho, ha => by
    have ho1 : NoU D (opdU o) := fun s hs => ho s (by simp [hs])
    have ho2 : NoU D (l.flatMap fun a => opdU a.2) := fun s hs => ho s (by rw [List.flatMap_cons]; simp [hs])
    simp only [St.args2] at ha ⊢
    split at ha
    rotate_left
    · cases ha
    rename_i h1
    rw [h.arg2 ho1 h1]
    simp only
    split at ha
    rotate_left
    · cases ha
    rename_i h2
    rw [h.args2 ho2 h2]; exact ha
theorem Sim.args (h : Sim D P L st st') (hP : ∀ q, KillOK q → ∀ x, P x → P (kl q x)) {l : List (Mode × Opd)} (ho : NoU D (l.flatMap fun a => opdU a.2)) {vs : List IV} {b : Bool} {ss : List Nat} (ha : st.args l = some (vs, st1, b, ss)) :
    ∃ st1', st'.args l = some (vs, st1', b, ss) ∧ Sim D P L st1 st1' ∧ Shp st st1 ∧ NoU D ss := by
  unfold St.args at ha ⊢
  split at ha
  rotate_left
  · cases ha
  rename_i v1 st2 ss2 h1
  obtain ⟨st2', q1, q2, q3, q4⟩ := Sim.args1 hP h ho h1
  simp only [q1]
  split at ha
  rotate_left
  · cases ha
  rename_i h2
  rw [q2.args2 ho h2]
  simp only [Option.some.injEq, Prod.mk.injEq] at ha ⊢
  obtain ⟨rfl, rfl, rfl, rfl⟩ := ha
  exact ⟨_, ⟨rfl, rfl, rfl, rfl⟩, q2, q3, q4⟩

theorem Sim.lentBack (hP : ∀ q, KillOK q → ∀ x, P x → P (kl q x)) : ∀ {ss : List Nat} {ys : List IV} {st st' st1 : St}, Sim D P L st st' → NoU D ss → st.lentBack ss ys = some st1 → ∃ st1', st'.lentBack ss ys = some st1' ∧ Sim D P L st1 st1'
  | [], [], st, st', st1, h, _, ha => by
    simp only [St.lentBack, Option.some.injEq] at ha ⊢; subst ha; exact ⟨_, rfl, h⟩
  | [], _ :: _, st, st', st1, h, _, ha => by simp [St.lentBack] at ha
  | _ :: _, [], st, st', st1, h, _, ha => by simp [St.lentBack] at ha
  | s :: ss, y :: ys, st, st', st1, h, ho, ha => by
    simp only [St.lentBack] at ha ⊢
    split at ha
    rotate_left
    · cases ha
    rename_i hy
    rw [if_pos hy]
    exact Sim.lentBack hP (h.tput hP (ho s (by simp)) y) (fun t ht => ho t (by simp [ht])) ha

theorem Sim.callWith (h : Sim D P L st st') (hP : ∀ q, KillOK q → ∀ x, P x → P (kl q x)) {cf : CF} {f : Lab} {caps : List IV} {args : List (Mode × Opd)} {p : Bool} (hp : p = true ∨ L = []) (ho : NoU D (args.flatMap fun a => opdU a.2)) {v : IV}
    (hc : st.callWith cf f caps args p = some (v, st1)) : ∃ st1', st'.callWith cf f caps args p = some (v, st1') ∧ Sim D P L st1 st1' ∧ (p = true → Shp st st1) := by
  unfold St.callWith at hc ⊢
  split at hc
  rotate_left
  · cases hc
  rename_i vs st2 fz ss h1
  obtain ⟨st2', q1, q2, q3, q4⟩ := h.args hP ho h1
  simp only [q1]
  cases p with
  | true =>
    simp only [if_true] at hc ⊢
    split at hc
    · cases hc
    rename_i hg
    rw [if_neg hg]
    split at hc
    rotate_left
    · cases hc
    split at hc
    · rename_i hz
      simp only [hz, if_true]
      split at hc
      · rename_i hn
        rw [if_pos hn]
        simp only [Option.some.injEq, Prod.mk.injEq] at hc ⊢
        obtain ⟨rfl, rfl⟩ := hc
        exact ⟨_, ⟨rfl, rfl⟩, q2, fun _ => q3⟩
      · cases hc
    · rename_i hz
      simp only [hz, if_false, Bool.false_eq_true]
      simp only [Option.some.injEq, Prod.mk.injEq] at hc ⊢
      obtain ⟨rfl, rfl⟩ := hc
      exact ⟨_, ⟨rfl, rfl⟩, q2, fun _ => q3⟩
  | false =>
    have hL : L = [] := by rcases hp with hp | hp; cases hp; exact hp
    subst hL
    have hloc : st2'.loc = st2.loc := by rw [q2.loc, List.append_nil]
    simp only [Bool.false_eq_true, if_false, q2.M, hloc] at hc ⊢
    split at hc
    · cases hc
    rename_i hz
    simp only [hz, Bool.false_eq_true, if_false]
    split at hc
    rotate_left
    · cases hc
    rename_i rv back M exp hcf
    split at hc
    rotate_left
    · cases hc
    rename_i lo hlo
    try simp only [hlo]
    split at hc
    rotate_left
    · cases hc
    rename_i hM
    rw [if_pos hM]
    split at hc
    rotate_left
    · cases hc
    rename_i st3 hlb
    have hs : Sim D P [] { T := killBoxes st2.T, loc := lo ++ exp, M := M.dropLast } { T := killBoxes st2'.T, loc := lo ++ exp, M := M.dropLast } := by
      have := q2.kill hP .rootB
      exact ⟨this.T, this.Q, this.H, rfl, by simp⟩
    obtain ⟨st3', r1, r2⟩ := Sim.lentBack hP hs q4 hlb
    simp only [r1]
    split at hc
    · simp only [Option.some.injEq, Prod.mk.injEq] at hc ⊢
      obtain ⟨rfl, rfl⟩ := hc
      exact ⟨_, ⟨rfl, rfl⟩, r2, fun hh => by cases hh⟩
    · split at hc
      rotate_left
      · cases hc
      rename_i hl
      rw [if_pos hl]
      simp only [Option.some.injEq, Prod.mk.injEq] at hc ⊢
      obtain ⟨rfl, rfl⟩ := hc
      exact ⟨_, ⟨rfl, rfl⟩, r2, fun hh => by cases hh⟩
    · cases hc

end
end Go.Idl

/- Orders of a region, told by its ideal operations: each operation in two like states. Conditions: none (definitions and lemmas). -/
namespace Go.Idl
open Go

/-- What operations that leave the state as it is come to. -/
def evq (st : St) : K → Option IV
  | .mv x => some (rd st.T x)
  | .nilo e => some (.own e [])
  | .pick c a b => match rd st.T c with
    | .sc (.bool t) => some (rd st.T (if t then a else b))
    | _ => none
  | .load agg sz a => match st.loadCells sz (rd st.T a) with
    | some cs => pack agg cs
    | none => none
  | .nilck x => match rd st.T x with
    | .bptr l k c => some (.bptr l k c)
    | .eptr r c p i j => some (.eptr r c p i j)
    | .lptr e j => some (.lptr e j)
    | _ => none
  | .bin op x y => binV op (rd st.T x) (rd st.T y)
  | .eqa neg n x y => match rd st.T x, rd st.T y with
    | .agg xs, .agg ys => if xs.length = n then match eqCells xs ys with
        | some b => some (.sc (.bool (if neg then !b else b)))
        | none => none
      else none
    | _, _ => none
  | .eqb neg x y => match rd st.T x, rd st.T y with
    | .sc (.bool a), .sc (.bool b) => some (.sc (.bool (if neg then !(a == b) else a == b)))
    | _, _ => none
  | .unop op x => match rd st.T x with
    | .sc v => match pureRun (Op.unary op v) with
      | some v => if Idl.isSc v then some (.sc v) else none
      | none => none
    | _ => none
  | .conv k x => match rd st.T x with
    | .sc (.int _ n) => some (.sc (.int k (k.wrap n)))
    | _ => none
  | .mkfn f caps => if (caps.map (rd st.T)).all IV.isBptr then some (.fn f (caps.map (rd st.T))) else none
  | .mksl esz zero len cap => match natOf (rd st.T len), natOf (rd st.T cap) with
    | some l, some c => if l ≤ c ∧ c ≤ lim then some (.own esz (elemsOf zero l)) else none
    | _, _ => none
  | .slc esz x lo hi mx => match slen (rd st.T x) with
    | some n => match bound 0 st.T lo, bound n st.T hi with
      | some l, some h => match mx with
        | none => slcV esz (rd st.T x) l h none
        | some m => match natOf (rd st.T m) with
          | some m => slcV esz (rd st.T x) l h (some m)
          | none => none
      | _, _ => none
    | none => none
  | .slcs x lo hi => match rd st.T x with
    | .sc (.string s) => match bound 0 st.T lo, bound s.size st.T hi with
      | some l, some h => if l ≤ h ∧ h ≤ s.size then some (.sc (.string (s.extract l h))) else none
      | _, _ => none
    | _ => none
  | .fadr off x => match rd st.T x with
    | .bptr l k c => some (.bptr l k (c + off))
    | .eptr r c p i j => some (.eptr r c p i (j + off))
    | .lptr e j => some (.lptr e (j + off))
    | _ => none
  | .fld agg off sz x => match rd st.T x with
    | .agg cs => match sub cs off sz with
      | some cs => pack agg cs
      | none => none
    | _ => none
  | .iadr esz x i => match natOf (rd st.T i) with
    | some i => match rd st.T x with
      | .lst e es _ => if e = esz then match es[i]? with
          | some e => some (.lptr e 0)
          | none => none
        else none
      | .arr r c p e off n _ => if e = esz ∧ i < n then some (.eptr r c p (off + i) 0) else none
      | _ => none
    | none => none
  | .idxs x i => match rd st.T x, natOf (rd st.T i) with
    | .sc (.string s), some i => match s[i]? with
      | some b => some (.sc (.int .u8 b.toNat))
      | none => none
    | _, _ => none
  | .len x => match slen (rd st.T x) with
    | some n => some (.sc (.int .i64 n))
    | none => none
  | .lens x => match rd st.T x with
    | .sc (.string s) => some (.sc (.int .i64 s.size))
    | _ => none
  | .minmax mn x y => match rd st.T x, rd st.T y with
    | .sc (.int k a), .sc (.int _ b) => some (.sc (.int k (if mn then (if b < a then b else a) else (if a < b then b else a))))
    | _, _ => none
  | _ => none

theorem ev_plain {cf : CF} {st : St} {k : K} (hk : plainK k = true) : ev cf st k = (evq st k).map fun v => (v, st) := by
  cases k <;> simp only [plainK, Bool.false_eq_true] at hk <;> simp only [ev, evq]
  case nilck x => generalize rd st.T x = y; cases y <;> rfl
  case fadr off x => generalize rd st.T x = y; cases y <;> rfl
  case iadr e x i =>
    cases natOf (rd st.T i) with
    | none => rfl
    | some n =>
      generalize rd st.T x = y
      cases y <;> simp only <;> first
        | rfl
        | (split <;> first
            | rfl
            | (split <;> simp_all))
  all_goals first
    | rfl
    | (split <;> rfl)
    | (split
       · split <;> first | rfl | simp_all
       · first | rfl | simp_all)
    | (repeat' split) <;> first | rfl | simp_all

section
variable {D : Nat → Prop} {P : IV → Prop} {L : Boxes} {st st' st1 : St} {cf : CF}

theorem Sim.bound (h : Sim D P L st st') {d : Nat} {o : Option Opd} (ho : NoU D (optU o)) : bound d st'.T o = bound d st.T o := by
  cases o with
  | none => rfl
  | some o => simp only [Idl.bound]; rw [h.rd (o := o) ho]

theorem Sim.evq (h : Sim D P L st st') {k : K} (ho : NoU D k.useL) {v : IV} (he : evq st k = some v) : evq st' k = some v := by
  have sub : ∀ {x : Opd} {l : List Nat}, (∀ s ∈ opdU x, s ∈ l) → NoU D l → Idl.rd st'.T x = Idl.rd st.T x := fun hs hl => h.rd fun s hh => hl s (hs s hh)
  cases k <;> simp only [K.useL] at ho <;> simp only [Idl.evq] at he ⊢ <;> try exact he
  case mv x => rw [h.rd ho]; exact he
  case pick c a b =>
    rw [sub (x := c) (by intro s hs; simp [hs]) ho]
    split at he
    · rename_i t _
      rw [h.rd (o := if t = true then a else b) (by intro s hs; refine ho s ?_; cases t <;> simp_all)]; exact he
    · cases he
  case load ag sz a =>
    rw [h.rd ho]
    split at he
    · rename_i cs hc
      rw [h.loadCells hc]; exact he
    · cases he
  case nilck x => rw [h.rd ho]; exact he
  case bin op x y => rw [sub (x := x) (by intro s hs; simp [hs]) ho, sub (x := y) (by intro s hs; simp [hs]) ho]; exact he
  case eqa n q x y => rw [sub (x := x) (by intro s hs; simp [hs]) ho, sub (x := y) (by intro s hs; simp [hs]) ho]; exact he
  case eqb n x y => rw [sub (x := x) (by intro s hs; simp [hs]) ho, sub (x := y) (by intro s hs; simp [hs]) ho]; exact he
  case unop op x => rw [h.rd ho]; exact he
  case conv q x => rw [h.rd ho]; exact he
  case mkfn f caps =>
    have : caps.map (Idl.rd st'.T) = caps.map (Idl.rd st.T) := List.map_congr_left fun o hm => h.rd fun s hs => ho s (List.mem_flatMap.2 ⟨o, hm, hs⟩)
    rw [this]; exact he
  case mksl e z x y => rw [sub (x := x) (by intro s hs; simp [hs]) ho, sub (x := y) (by intro s hs; simp [hs]) ho]; exact he
  case slc e x lo hi mx =>
    rw [sub (x := x) (by intro s hs; simp [hs]) ho]
    simp only [h.bound (o := lo) (fun s hs => ho s (by simp [hs])), h.bound (o := hi) (fun s hs => ho s (by simp [hs]))]
    cases mx with
    | none => exact he
    | some m => simp only; rw [sub (x := m) (by intro s hs; simp [optU, hs]) ho]; exact he
  case slcs x lo hi =>
    rw [sub (x := x) (by intro s hs; simp [hs]) ho]
    simp only [h.bound (o := lo) (fun s hs => ho s (by simp [hs])), h.bound (o := hi) (fun s hs => ho s (by simp [hs]))]
    exact he
  case fadr off x => rw [h.rd ho]; exact he
  case fld ag off sz x => rw [h.rd ho]; exact he
  case iadr e x i => rw [sub (x := x) (by intro s hs; simp [hs]) ho, sub (x := i) (by intro s hs; simp [hs]) ho]; exact he
  case idxs x i => rw [sub (x := x) (by intro s hs; simp [hs]) ho, sub (x := i) (by intro s hs; simp [hs]) ho]; exact he
  case len x => rw [h.rd ho]; exact he
  case lens x => rw [h.rd ho]; exact he
  case minmax mn x y => rw [sub (x := x) (by intro s hs; simp [hs]) ho, sub (x := y) (by intro s hs; simp [hs]) ho]; exact he

theorem Sim.fillCells (hP : ∀ q, KillOK q → ∀ x, P x → P (kl q x)) : ∀ {ps : List (Nat × Nat × Opd)} {cs cs2 : List IV} {st st' : St} {T : Tm}, Sim D P L st st' → NoU D (ps.flatMap fun p => opdU p.2.2) → fillCells st.T cs ps = some (cs2, T) →
    ∃ T', fillCells st'.T cs ps = some (cs2, T') ∧ Sim D P L { st with T := T } { st' with T := T' }
  | [], cs, cs2, st, st', T, h, _, he => by
    simp only [Idl.fillCells, Option.some.injEq, Prod.mk.injEq] at he ⊢
    obtain ⟨rfl, rfl⟩ := he
    exact ⟨_, ⟨rfl, rfl⟩, h⟩
  | (off, sz, o) :: ps, cs, cs2, st, st', T, h, ho, he => by
    have ho1 : NoU D (opdU o) := fun s hs => ho s (by rw [List.flatMap_cons]; simp [hs])
    have ho2 : NoU D (ps.flatMap fun p => opdU p.2.2) := fun s hs => ho s (by rw [List.flatMap_cons]; simp [hs])
    simp only [Idl.fillCells] at he ⊢
    cases ht : Idl.tk st.T o with
    | mk v T1 =>
    obtain ⟨T1', q1, q2⟩ := h.tk hP ho1 ht
    rw [ht] at he
    rw [q1]
    simp only at he ⊢
    split at he
    rotate_left
    · cases he
    rename_i hc
    rw [if_pos hc]
    exact Sim.fillCells hP q2 ho2 he

theorem Sim.fillElems (hP : ∀ q, KillOK q → ∀ x, P x → P (kl q x)) {e : Nat} : ∀ {ps : List (Nat × Opd)} {es es2 : List (List IV)} {st st' st1 : St}, Sim D P L st st' → NoU D (ps.flatMap fun p => opdU p.2) → st.fillElems es e ps = some (es2, st1) →
    ∃ st1', st'.fillElems es e ps = some (es2, st1') ∧ Sim D P L st1 st1' ∧ Shp st st1
  | [], es, es2, st, st', st1, h, _, he => by
    simp only [St.fillElems, Option.some.injEq, Prod.mk.injEq] at he ⊢
    obtain ⟨rfl, rfl⟩ := he
    exact ⟨_, ⟨rfl, rfl⟩, h, .refl _⟩
  | (i, o) :: ps, es, es2, st, st', st1, h, ho, he => by
    have ho1 : NoU D (opdU o) := fun s hs => ho s (by rw [List.flatMap_cons]; simp [hs])
    have ho2 : NoU D (ps.flatMap fun p => opdU p.2) := fun s hs => ho s (by rw [List.flatMap_cons]; simp [hs])
    simp only [St.fillElems] at he ⊢
    cases ht : Idl.tk st.T o with
    | mk v T1 =>
    obtain ⟨T1', q1, q2⟩ := h.tk hP ho1 ht
    rw [ht] at he
    rw [q1]
    simp only at he ⊢
    split at he
    rotate_left
    · cases he
    rename_i cs st2 h2
    obtain ⟨st2', r1, r2, r3⟩ := q2.absorbs hP h2
    simp only [r1]
    split at he
    rotate_left
    · cases he
    rename_i hc
    rw [if_pos hc]
    obtain ⟨st3', k1, k2, k3⟩ := Sim.fillElems hP r2 ho2 he
    exact ⟨st3', k1, k2, Shp.trans (show Shp st st2 from r3) k3⟩

theorem Sim.news (h : Sim D P L st st') (hP : ∀ q, KillOK q → ∀ x, P x → P (kl q x)) {e : Nat} {o : Opd} (ho : NoU D (opdU o)) {es : List (List IV)} (he : st.news e o = some (es, st1)) : ∃ st1', st'.news e o = some (es, st1') ∧ Sim D P L st1 st1' ∧ Shp st st1 := by
  unfold St.news at he ⊢
  cases ht : Idl.tk st.T o with
  | mk v T1 =>
  obtain ⟨T1', q1, q2⟩ := h.tk hP ho ht
  rw [ht] at he
  rw [q1]
  have other : ∀ {r : Option (List (List IV) × St)} , (match st.sview (Idl.rd st.T o) with
      | some (e2, es) => if ((e2 == e || es.isEmpty) && es.all fun x => x.all IV.plain1) = true then some (es, st) else none
      | none => none) = some (es, st1) → ∃ st1', (match st'.sview (Idl.rd st'.T o) with
      | some (e2, es) => if ((e2 == e || es.isEmpty) && es.all fun x => x.all IV.plain1) = true then some (es, st') else none
      | none => none) = some (es, st1') ∧ Sim D P L st1 st1' ∧ Shp st st1 := by
    intro _ hh
    rw [h.rd ho]
    split at hh
    rotate_left
    · cases hh
    rename_i hs
    rw [h.sview hs]
    simp only
    split at hh
    · rename_i hc
      rw [if_pos hc]
      simp only [Option.some.injEq, Prod.mk.injEq] at hh ⊢
      obtain ⟨rfl, rfl⟩ := hh
      exact ⟨_, ⟨rfl, rfl⟩, h, .refl _⟩
    · cases hh
  cases v <;> simp only at he ⊢ <;> try exact other (r := none) he
  split at he
  · rename_i hc
    rw [if_pos hc]
    simp only [Option.some.injEq, Prod.mk.injEq] at he ⊢
    obtain ⟨rfl, rfl⟩ := he
    exact ⟨_, ⟨rfl, rfl⟩, q2, .refl _⟩
  · cases he

theorem Sim.append (h : Sim D P L st st') (hP : ∀ q, KillOK q → ∀ x, P x → P (kl q x)) {e : Nat} {o : Opd} (ho : NoU D (opdU o)) {ys : List (List IV)} {v : IV} (he : st.append e o ys = some (v, st1)) : ∃ st1', st'.append e o ys = some (v, st1') ∧ Sim D P L st1 st1' ∧ Shp st st1 := by
  unfold St.append at he ⊢
  cases ht : Idl.tk st.T o with
  | mk x T1 =>
  obtain ⟨T1', q1, q2⟩ := h.tk hP ho ht
  rw [ht] at he
  rw [q1]
  have other : ∀ (x : IV), (match ({ st with T := T1 } : St).absorb x with
      | some (.own e2 es, st) => if e2 = e ∧ es.length + ys.length ≤ lim then some (IV.own e (es ++ ys), st) else none
      | _ => none) = some (v, st1) → ∃ st1', (match ({ st' with T := T1' } : St).absorb x with
      | some (.own e2 es, st) => if e2 = e ∧ es.length + ys.length ≤ lim then some (IV.own e (es ++ ys), st) else none
      | _ => none) = some (v, st1') ∧ Sim D P L st1 st1' ∧ Shp st st1 := by
    intro x hh
    split at hh
    rotate_left
    · cases hh
    rename_i e2 es st2 ha
    obtain ⟨st2', r1, r2, r3⟩ := q2.absorb hP ha
    simp only [r1]
    split at hh
    rotate_left
    · cases hh
    rename_i hc
    rw [if_pos hc]
    simp only [Option.some.injEq, Prod.mk.injEq] at hh ⊢
    obtain ⟨rfl, rfl⟩ := hh
    exact ⟨_, ⟨rfl, rfl⟩, r2, r3⟩
  cases x <;> try (first | exact other (.sc _) he | exact other (.own _ _) he | exact other (.eptr _ _ _ _ _) he | exact other (.lptr _ _) he | exact other (.bptr _ _ _) he | exact other (.fn _ _) he | exact other (.agg _) he | exact other (.tup _) he | exact other .un he)
  case lst e2 es cl =>
    cases cl with
    | false => exact other (.lst e2 es false) he
    | true =>
      simp only at he ⊢
      split at he
      · rename_i hc
        rw [if_pos hc]
        simp only [Option.some.injEq, Prod.mk.injEq] at he ⊢
        obtain ⟨rfl, rfl⟩ := he
        exact ⟨_, ⟨rfl, rfl⟩, h, .refl _⟩
      · cases he
  case arr r c p e2 off n cl =>
    cases cl with
    | false => exact other (.arr r c p e2 off n false) he
    | true =>
      simp only at he ⊢
      split at he
      · rename_i hc
        rw [if_pos hc]
        simp only [Option.some.injEq, Prod.mk.injEq] at he ⊢
        obtain ⟨rfl, rfl⟩ := he
        exact ⟨_, ⟨rfl, rfl⟩, q2, .refl _⟩
      · cases he

/-- Each operation does alike in like states. -/
theorem ev_sim (h : Sim D P L st st') (hP : ∀ q, KillOK q → ∀ x, P x → P (kl q x)) {k : K} (hk : monoK k = true ∨ L = []) (ho : NoU D k.useL) {v : IV} (he : ev cf st k = some (v, st1)) :
    ∃ st1', ev cf st' k = some (v, st1') ∧ Sim D P L st1 st1' ∧ (monoK k = true → Shp st st1) := by
  by_cases hp : plainK k = true
  · rw [ev_plain hp] at he ⊢
    rw [Option.map_eq_some_iff] at he
    obtain ⟨v', h1, h2⟩ := he
    simp only [Prod.mk.injEq] at h2
    obtain ⟨rfl, rfl⟩ := h2
    rw [h.evq ho h1]
    exact ⟨st', rfl, h, fun _ => .refl _⟩
  cases k <;> simp only [plainK, not_true_eq_false] at hp <;> simp only [K.useL] at ho <;> simp only [ev] at he ⊢
  case asg x =>
    cases ht : Idl.tk st.T x with
    | mk u T1 =>
    obtain ⟨T1', q1, q2⟩ := h.tk hP ho ht
    rw [ht] at he
    rw [q1]
    simp only [Option.some.injEq, Prod.mk.injEq] at he ⊢
    obtain ⟨rfl, rfl⟩ := he
    exact ⟨_, ⟨rfl, rfl⟩, q2, fun _ => .refl _⟩
  case asgm x =>
    cases ht : Idl.tk st.T x with
    | mk u T1 =>
    obtain ⟨T1', q1, q2⟩ := h.tk hP ho ht
    rw [ht] at he
    rw [q1]
    cases u <;> simp only at he ⊢
    case agg cs =>
      split at he
      rotate_left
      · cases he
      rename_i cs2 st2 h2
      obtain ⟨st2', r1, r2, r3⟩ := q2.absorbs hP h2
      simp only [r1, Option.some.injEq, Prod.mk.injEq] at he ⊢
      obtain ⟨rfl, rfl⟩ := he
      exact ⟨_, ⟨rfl, rfl⟩, r2, fun _ => r3⟩
    all_goals
      split at he
      rotate_left
      · cases he
      rename_i u2 st2 h2
      obtain ⟨st2', r1, r2, r3⟩ := q2.absorb hP h2
      simp only [r1, Option.some.injEq, Prod.mk.injEq] at he ⊢
      obtain ⟨rfl, rfl⟩ := he
      exact ⟨_, ⟨rfl, rfl⟩, r2, fun _ => r3⟩
  case clr x z =>
    rw [h.rd ho]
    split at he
    rotate_left
    · cases he
    split at he
    rotate_left
    · cases he
    rename_i hp1
    simp only [(h.plc hp1).1]
    split at he
    rotate_left
    · cases he
    rename_i hc
    rw [if_pos hc]
    split at he
    rotate_left
    · cases he
    rename_i st2 h2
    obtain ⟨st2', q1, q2, q3⟩ := h.setPlc hp1 h2
    simp only [q1, Option.some.injEq, Prod.mk.injEq] at he ⊢
    obtain ⟨rfl, rfl⟩ := he
    exact ⟨_, ⟨rfl, rfl⟩, q2.kill hP (.rooted _), fun _ => q3⟩
  case alloc z =>
    have hL : L = [] := by rcases hk with hk | hk; simp [monoK] at hk; exact hk
    subst hL
    have hloc : st'.loc = st.loc := by rw [h.loc, List.append_nil]
    simp only [Option.some.injEq, Prod.mk.injEq] at he ⊢
    obtain ⟨rfl, rfl⟩ := he
    refine ⟨_, ⟨by rw [h.M, hloc], rfl⟩, ⟨h.T, h.Q, h.H, h.M, by simp [hloc]⟩, by simp [monoK]⟩
  case box x =>
    have hL : L = [] := by rcases hk with hk | hk; simp [monoK] at hk; exact hk
    subst hL
    cases ht : Idl.tk st.T x with
    | mk u T1 =>
    obtain ⟨T1', q1, q2⟩ := h.tk hP ho ht
    rw [ht] at he
    rw [q1]
    simp only at he ⊢
    split at he
    rotate_left
    · cases he
    rename_i cs st2 h2
    obtain ⟨st2', r1, r2, r3⟩ := q2.absorbs hP h2
    have hloc : st2'.loc = st2.loc := by rw [r2.loc, List.append_nil]
    simp only [r1, Option.some.injEq, Prod.mk.injEq] at he ⊢
    obtain ⟨rfl, rfl⟩ := he
    exact ⟨_, ⟨by rw [r2.M, hloc], rfl⟩, ⟨r2.T, r2.Q, r2.H, r2.M, by simp [hloc]⟩, by simp [monoK]⟩
  case build z ps =>
    split at he
    rotate_left
    · cases he
    rename_i cs T1 h1
    obtain ⟨T1', q1, q2⟩ := Sim.fillCells hP h ho h1
    simp only [q1, Option.some.injEq, Prod.mk.injEq] at he ⊢
    obtain ⟨rfl, rfl⟩ := he
    exact ⟨_, ⟨rfl, rfl⟩, q2, fun _ => .refl _⟩
  case bsl e z n ps =>
    split at he
    rotate_left
    · cases he
    rename_i es st2 h1
    obtain ⟨st2', q1, q2, q3⟩ := Sim.fillElems hP h ho h1
    simp only [q1, Option.some.injEq, Prod.mk.injEq] at he ⊢
    obtain ⟨rfl, rfl⟩ := he
    exact ⟨_, ⟨rfl, rfl⟩, q2, fun _ => q3⟩
  case store sz a x =>
    cases ht : Idl.tk st.T x with
    | mk u T1 =>
    obtain ⟨T1', q1, q2⟩ := h.tk hP (fun s hs => ho s (by simp [hs])) ht
    rw [ht] at he
    rw [q1]
    simp only at he ⊢
    split at he
    rotate_left
    · cases he
    rename_i cs st2 h2
    obtain ⟨st2', r1, r2, r3⟩ := q2.absorbs hP h2
    simp only [r1, r2.rd (o := a) (fun s hs => ho s (by simp [hs]))]
    split at he
    rotate_left
    · cases he
    rename_i hl
    rw [if_pos hl]
    split at he
    rotate_left
    · cases he
    rename_i st3 h3
    obtain ⟨st3', k1, k2, k3⟩ := r2.storeCells hP h3
    simp only [k1, Option.some.injEq, Prod.mk.injEq] at he ⊢
    obtain ⟨rfl, rfl⟩ := he
    exact ⟨_, ⟨rfl, rfl⟩, k2, fun _ => Shp.trans (show Shp st st2 from r3) k3⟩
  case storef sz a x =>
    cases ht : Idl.tk st.T x with
    | mk u T1 =>
    obtain ⟨T1', q1, q2⟩ := h.tk hP (fun s hs => ho s (by simp [hs])) ht
    rw [ht] at he
    rw [q1]
    simp only at he ⊢
    split at he
    rotate_left
    · cases he
    rename_i cs st2 h2
    obtain ⟨st2', r1, r2, r3⟩ := q2.absorbs hP h2
    simp only [r1, r2.rd (o := a) (fun s hs => ho s (by simp [hs]))]
    split at he
    rotate_left
    · cases he
    rename_i hl
    rw [if_pos hl]
    split at he
    rotate_left
    · cases he
    split at he
    rotate_left
    · cases he
    rename_i st3 h3
    obtain ⟨st3', k1, k2, k3⟩ := r2.storeCells hP h3
    simp only [k1, Option.some.injEq, Prod.mk.injEq] at he ⊢
    obtain ⟨rfl, rfl⟩ := he
    exact ⟨_, ⟨rfl, rfl⟩, k2, fun _ => Shp.trans (show Shp st st2 from r3) k3⟩
  case extr x i =>
    cases x <;> simp only at he ⊢ <;> try (cases he; done)
    rename_i s
    have hs := ho s (by simp [opdU])
    rw [h.T s hs]
    split at he
    rotate_left
    · cases he
    split at he
    rotate_left
    · cases he
    rename_i hv
    try simp only [hv]
    simp only [Option.some.injEq, Prod.mk.injEq] at he ⊢
    obtain ⟨rfl, rfl⟩ := he
    exact ⟨_, ⟨rfl, rfl⟩, (h.dropSlot hP hs).tput hP hs _, fun _ => .refl _⟩
  case call f args p =>
    exact h.callWith hP (by rcases hk with hk | hk; exact .inl hk; exact .inr hk) ho he
  case callq f args =>
    obtain ⟨s1, q1, q2, q3⟩ := h.callWith hP (.inl rfl) ho he
    exact ⟨s1, q1, q2, fun _ => q3 rfl⟩
  case callv x args =>
    have hL : L = [] := by rcases hk with hk | hk; simp [monoK] at hk; exact hk
    rw [h.rd (o := x) (fun s hs => ho s (by simp [hs]))]
    split at he
    rotate_left
    · cases he
    obtain ⟨st1', q1, q2, -⟩ := h.callWith hP (.inr hL) (fun s hs => ho s (by simp [hs])) he
    exact ⟨st1', q1, q2, by simp [monoK]⟩
  case app e x y =>
    split at he
    rotate_left
    · cases he
    rename_i ys st2 h2
    obtain ⟨st2', q1, q2, q3⟩ := h.news hP (fun s hs => ho s (by simp [hs])) h2
    simp only [q1]
    split at he
    rotate_left
    · cases he
    rename_i u st3 h3
    obtain ⟨st3', r1, r2, r3⟩ := q2.append hP (fun s hs => ho s (by simp [hs])) h3
    simp only [r1, Option.some.injEq, Prod.mk.injEq] at he ⊢
    obtain ⟨rfl, rfl⟩ := he
    exact ⟨_, ⟨rfl, rfl⟩, r2, fun _ => q3.trans r3⟩
  case halt => cases he

end
end Go.Idl

/- Orders of a region, told by its ideal operations: swaps, and a check that some given orders stand for all. Conditions: none (definitions and lemmas). -/
namespace Go.Idl
open Go

def gU : Option (Nat × Bool) → List Nat
  | some (s, _) => [s]
  | none => []
def IOp.use (x : IOp) : List Nat := gU x.g ++ x.k.useL
def dstIn (d : Option Nat) (l : List Nat) : Bool := match d with
  | some d => l.contains d
  | none => false
def apartI (x y : IOp) : Bool := !dstIn x.dst y.use && !dstIn y.dst x.use && (match x.dst, y.dst with
  | some d, some e => d != e
  | _, _ => true)
/-- x and then y may as well be y and then x. -/
def indI (iops : List IOp) (i j : Nat) : Bool := match iops[i]?, iops[j]? with
  | some x, some y => apartI x y && ((quietN x.k && quietK y.k) || (monoK x.k && allocK y.k && y.g.isNone && y.dst.isSome))
  | _, _ => false

theorem quiet_same {cf : CF} {st st1 : St} {k : K} {v : IV} (hk : quietK k = true) (he : ev cf st k = some (v, st1)) : st1 = st := by
  by_cases hp : plainK k = true
  · rw [ev_plain hp, Option.map_eq_some_iff] at he
    obtain ⟨_, _, h2⟩ := he
    simp only [Prod.mk.injEq] at h2
    exact h2.2.symm
  · have key : ∀ f args, (args.all fun a => a.1 == Mode.val || a.1 == Mode.rv) = true → st.callWith cf f [] args true = some (v, st1) → st1 = st := by
      intro f args hk hc
      simp only [St.callWith] at hc
      split at hc
      rotate_left
      · cases hc
      rename_i vs st2 fz ss h1
      have hs : st2 = st := by
        unfold St.args at h1
        split at h1
        rotate_left
        · cases h1
        rename_i v1 st3 ss3 h3
        split at h1
        rotate_left
        · cases h1
        simp only [Option.some.injEq, Prod.mk.injEq] at h1
        obtain ⟨-, rfl, -, -⟩ := h1
        have key : ∀ (l : List (Mode × Opd)) (st st2 : St) vs ss, (l.all fun a => a.1 == .val || a.1 == .rv) = true → st.args1 l = some (vs, st2, ss) → st2 = st := by
          intro l
          induction l with
          | nil => intro st st2 vs ss _ h; simp only [St.args1, Option.some.injEq, Prod.mk.injEq] at h; exact h.2.1.symm
          | cons a l ih =>
            intro st st2 vs ss hl h
            obtain ⟨m, o⟩ := a
            simp only [List.all_cons, Bool.and_eq_true, Bool.or_eq_true, beq_iff_eq] at hl
            have h1 : st.arg1 m o = some (none, st) := by rcases hl.1 with rfl | rfl <;> rfl
            simp only [St.args1, h1] at h
            split at h
            rotate_left
            · cases h
            rename_i h2
            simp only [Option.some.injEq, Prod.mk.injEq] at h
            obtain ⟨-, rfl, -⟩ := h
            exact ih _ _ _ _ hl.2 h2
        exact key _ _ _ _ _ hk h3
      subst hs
      try simp only [if_true] at hc
      split at hc
      · cases hc
      split at hc
      rotate_left
      · cases hc
      split at hc
      · split at hc
        · simp only [Option.some.injEq, Prod.mk.injEq] at hc; exact hc.2.symm
        · cases hc
      · simp only [Option.some.injEq, Prod.mk.injEq] at hc; exact hc.2.symm
    cases k <;> simp only [quietK, plainK, Bool.false_eq_true, not_true_eq_false] at hk hp
    · rename_i f args p
      cases p with
      | false => simp [quietK, plainK] at hk
      | true => exact key f args (by simpa [quietK] using hk) he
    · rename_i f args
      exact key f args hk he

theorem alloc_not_quiet {k : K} (h : allocK k = true) : quietK k = false := by
  cases k <;> simp only [allocK, Bool.false_eq_true] at h
  rfl

/-- Two states that nobody can tell apart. -/
abbrev SEq (st st' : St) : Prop := Sim (fun _ => False) (fun _ => True) [] st st'
theorem SEq.refl (st : St) : SEq st st := ⟨fun _ _ => rfl, fun _ h => h.elim, fun _ h => h.elim, rfl, by simp⟩
theorem SEq.trans {a b c : St} (h : SEq a b) (h' : SEq b c) : SEq a c :=
  ⟨fun s hs => (h'.T s hs).trans (h.T s hs), fun _ h => h.elim, fun _ h => h.elim, h'.M.trans h.M, by rw [h'.loc, h.loc, List.append_assoc, List.append_nil]⟩
theorem seq_cut {st st' : St} (h : SEq st st') (live : List Nat) : st'.cut live = st.cut live := by
  unfold St.cut restrict
  have e1 := h.M
  have e2 : st'.loc = st.loc := by rw [h.loc, List.append_nil]
  have e3 : (live.map fun s => (s, kl (rootOut live) (tget st'.T s))) = live.map fun s => (s, kl (rootOut live) (tget st.T s)) := List.map_congr_left fun s _ => by rw [h.T s (fun h => h)]
  cases st; cases st'
  simp only at e1 e2 e3 ⊢
  rw [e1, e2, e3]

section
variable {D : Nat → Prop} {P : IV → Prop} {L : Boxes} {st st' st1 : St} {cf : CF}

theorem noT : ∀ q, KillOK q → ∀ x : IV, (fun _ => True) x → (fun _ : IV => True) (kl q x) := fun _ _ _ _ => trivial

/-- One operation with its guard and its slot, in like states. -/
theorem op_sim (h : Sim D P L st st') (hP : ∀ q, KillOK q → ∀ x, P x → P (kl q x)) {x : IOp} (hk : monoK x.k = true ∨ L = []) (ho : NoU D x.use) (hd : ∀ s, x.dst = some s → ¬ D s) (he : execOp1 cf st x = some st1) :
    ∃ st1', execOp1 cf st' x = some st1' ∧ Sim D P L st1 st1' ∧ (monoK x.k = true → Shp st st1) := by
  have ho2 : NoU D x.k.useL := fun s hs => ho s (by simp [IOp.use, hs])
  have shT : ∀ {st : St} {T : Tm}, Shp st { st with T := T } := fun {st T} => ⟨rfl, rfl⟩
  have run : ∀ {st1 : St}, (match ev cf st x.k with
      | some (v, st') => match x.dst with
        | some d => some { st' with T := tput st'.T d v }
        | none => some st'
      | none => none) = some st1 → ∃ st1', (match ev cf st' x.k with
      | some (v, st') => match x.dst with
        | some d => some { st' with T := tput st'.T d v }
        | none => some st'
      | none => none) = some st1' ∧ Sim D P L st1 st1' ∧ (monoK x.k = true → Shp st st1) := by
    intro st1 hh
    split at hh
    rotate_left
    · cases hh
    rename_i v st2 h2
    obtain ⟨st2', q1, q2, q3⟩ := ev_sim h hP hk ho2 h2
    simp only [q1]
    cases hx : x.dst with
    | none =>
      simp only [hx, Option.some.injEq] at hh ⊢
      subst hh
      exact ⟨_, rfl, q2, q3⟩
    | some d =>
      simp only [hx, Option.some.injEq] at hh ⊢
      subst hh
      exact ⟨_, rfl, q2.tput hP (hd d hx) v, fun hm => (q3 hm).trans shT⟩
  have skip : ∀ {st1 : St}, (match x.dst with
      | some d => some { st with T := tput st.T d (.tup []) }
      | none => some st) = some st1 → ∃ st1', (match x.dst with
      | some d => some { st' with T := tput st'.T d (.tup []) }
      | none => some st') = some st1' ∧ Sim D P L st1 st1' ∧ (monoK x.k = true → Shp st st1) := by
    intro st1 hh
    cases hx : x.dst with
    | none =>
      simp only [hx, Option.some.injEq] at hh ⊢
      subst hh
      exact ⟨_, rfl, h, fun _ => .refl _⟩
    | some d =>
      simp only [hx, Option.some.injEq] at hh ⊢
      subst hh
      exact ⟨_, rfl, h.tput hP (hd d hx) _, fun _ => shT⟩
  unfold execOp1 at he ⊢
  cases hg : x.g with
  | none => simp only [hg] at he ⊢; exact run he
  | some p =>
    obtain ⟨s, b⟩ := p
    have hs : ¬ D s := ho s (by simp [IOp.use, hg, gU])
    simp only [hg, h.T s hs] at he ⊢
    split at he
    · split at he
      · rename_i hb; rw [if_pos hb]; exact run he
      · rename_i hb; rw [if_neg hb]; exact skip he
    · exact skip he
    · cases he

theorem ops_seq : ∀ {l : List IOp} {st st' st1 : St}, SEq st st' → execOps cf st l = some st1 → ∃ st1', execOps cf st' l = some st1' ∧ SEq st1 st1'
  | [], st, st', st1, h, he => by
    simp only [execOps, Option.some.injEq] at he ⊢; subst he; exact ⟨_, rfl, h⟩
  | x :: l, st, st', st1, h, he => by
    simp only [execOps] at he ⊢
    split at he
    rotate_left
    · cases he
    rename_i st2 h2
    obtain ⟨st2', q1, q2, -⟩ := op_sim h noT (.inr rfl) (fun _ _ h => h) (fun _ _ h => h) h2
    simp only [q1]
    exact ops_seq q2 he

/-- What an operation leaves alone owns nothing still. -/
theorem op_nh {x : IOp} {d : Nat} (hd : x.dst ≠ some d) (hn : (tget st.T d).holds = false) (hu : d ∉ x.use) (he : execOp1 cf st x = some st1) : (tget st1.T d).holds = false := by
  have h : Sim (fun s => s = d) (fun _ => True) [] st st := ⟨fun _ _ => rfl, fun _ _ => trivial, fun s hs => by rw [hs]; exact hn, rfl, by simp⟩
  obtain ⟨st1', -, q2, -⟩ := op_sim h noT (.inr rfl) (x := x) (fun s hs hh => hu (hh ▸ hs)) (fun s hs hh => hd (hh ▸ hs)) he
  exact q2.H d rfl

def putR (st : St) (d : Option Nat) (v : IV) : St := match d with
  | some d => { st with T := tput st.T d v }
  | none => st

/-- A quiet operation only puts a value into its slot. -/
theorem quiet_op {x : IOp} (hq : quietK x.k = true) (he : execOp1 cf st x = some st1) : ∃ v, st1 = putR st x.dst v := by
  have run : ∀ {st1 : St}, (match ev cf st x.k with
      | some (v, st') => match x.dst with
        | some d => some { st' with T := tput st'.T d v }
        | none => some st'
      | none => none) = some st1 → ∃ v, st1 = putR st x.dst v := by
    intro st1 hh
    split at hh
    rotate_left
    · cases hh
    rename_i v st2 h2
    have := quiet_same hq h2
    subst this
    refine ⟨v, ?_⟩
    unfold putR
    split at hh <;> simp_all
  have skip : ∀ {st1 : St}, (match x.dst with
      | some d => some { st with T := tput st.T d (.tup []) }
      | none => some st) = some st1 → ∃ v, st1 = putR st x.dst v := by
    intro st1 hh
    refine ⟨.tup [], ?_⟩
    unfold putR
    split at hh <;> simp_all
  unfold execOp1 at he
  split at he
  · exact run he
  · split at he
    · split at he
      · exact run he
      · exact skip he
    · exact skip he
    · cases he

theorem putR_T {st : St} {d : Option Nat} {v : IV} (hn : ∀ e, d = some e → (tget st.T e).holds = false) (s : Nat) : tget (putR st d v).T s = if d = some s then v else tget st.T s := by
  cases d with
  | none => simp [putR]
  | some e =>
    simp only [putR, tput, hn e rfl, Bool.false_eq_true, if_false, tget]
    by_cases h : e = s
    · subst h; simp
    · simp [h]
theorem putR_M {st : St} {d : Option Nat} {v : IV} : (putR st d v).M = st.M := by cases d <;> rfl
theorem putR_loc {st : St} {d : Option Nat} {v : IV} : (putR st d v).loc = st.loc := by cases d <;> rfl

theorem apart_use {x y : IOp} (h : apartI x y = true) : (∀ s, x.dst = some s → s ∉ y.use) ∧ (∀ s, y.dst = some s → s ∉ x.use) ∧ (∀ s, x.dst = some s → y.dst ≠ some s) := by
  unfold apartI at h
  simp only [Bool.and_eq_true, Bool.not_eq_true'] at h
  obtain ⟨⟨h1, h2⟩, h3⟩ := h
  refine ⟨fun s hs => ?_, fun s hs => ?_, fun s hs hy => ?_⟩
  · rw [hs] at h1; simpa [dstIn] using h1
  · rw [hs] at h2; simpa [dstIn] using h2
  · rw [hs, hy] at h3; simp at h3

/-- Two operations change places. -/
theorem op_swap {iops : List IOp} {i j : Nat} {x y : IOp} (hx : iops[i]? = some x) (hy : iops[j]? = some y) (hi : indI iops i j = true) (hnx : swK x.k = true → ∀ d, x.dst = some d → (tget st.T d).holds = false) (hny : ∀ d, y.dst = some d → (tget st.T d).holds = false)
    {st2 : St} (h1 : execOp1 cf st x = some st1) (h2 : execOp1 cf st1 y = some st2) (hox : quietN x.k = true → ∀ d, x.dst = some d → (tget st1.T d).holds = false) : ∃ st1' st2', execOp1 cf st y = some st1' ∧ execOp1 cf st1' x = some st2' ∧ SEq st2 st2' ∧
      (∀ d, y.dst = some d → tget st1'.T d = tget st2.T d) ∧ (∀ d, x.dst = some d → tget st2'.T d = tget st1.T d) := by
  unfold indI at hi
  simp only [hx, hy, Bool.and_eq_true, Bool.or_eq_true] at hi
  obtain ⟨hap, hi⟩ := hi
  obtain ⟨a1, a2, a3⟩ := apart_use hap
  rcases hi with ⟨hqx, hqy⟩ | ⟨⟨⟨hmx, hay⟩, hgy⟩, hdy⟩
  · -- both are quiet
    have hox := hox hqx
    have hqx : quietK x.k = true := by simp only [quietN, Bool.and_eq_true] at hqx; exact hqx.1
    have hnx := hnx (by simp [swK, hqx])
    obtain ⟨vx, rfl⟩ := quiet_op hqx h1
    have hny1 : ∀ e, y.dst = some e → (tget (putR st x.dst vx).T e).holds = false := fun e he => by
      rw [putR_T hnx, if_neg (fun h => a3 e h he)]; exact hny e he
    obtain ⟨vy, rfl⟩ := quiet_op hqy h2
    have sy : Sim (fun s => x.dst = some s) (fun _ => True) [] (putR st x.dst vx) st := by
      refine ⟨fun s hs => ?_, fun _ _ => trivial, fun s hs => hox s hs, by rw [putR_M], by rw [putR_loc, List.append_nil]⟩
      rw [putR_T hnx, if_neg hs]
    obtain ⟨s1, q1, q2, -⟩ := op_sim sy noT (.inr rfl) (x := y) (fun s hs hh => a1 s hh hs) (fun s hs hh => a3 s hh hs) h2
    obtain ⟨vy', rfl⟩ := quiet_op hqy q1
    have hvy : ∀ e, y.dst = some e → vy' = vy := fun e he => by
      have := q2.T e (fun hh => a3 e hh he)
      rw [putR_T hny, putR_T hny1, if_pos he, if_pos he] at this
      exact this
    have hpy : putR st y.dst vy' = putR st y.dst vy := by
      cases hd : y.dst with
      | none => rfl
      | some e => rw [hvy e hd]
    rw [hpy] at q1 q2
    have sx : Sim (fun s => y.dst = some s) (fun _ => True) [] st (putR st y.dst vy) := by
      refine ⟨fun s hs => ?_, fun _ _ => trivial, fun s hs => hny s hs, by rw [putR_M], by rw [putR_loc, List.append_nil]⟩
      rw [putR_T hny, if_neg hs]
    obtain ⟨s2, r1, r2, -⟩ := op_sim sx noT (.inr rfl) (x := x) (fun s hs hh => a2 s hh hs) (fun s hs hh => a3 s hs hh) h1
    obtain ⟨vx', rfl⟩ := quiet_op hqx r1
    have hnx1 : ∀ e, x.dst = some e → (tget (putR st y.dst vy).T e).holds = false := fun e he => by
      rw [putR_T hny, if_neg (fun h => a3 e he h)]; exact hnx e he
    refine ⟨_, _, q1, r1, ⟨fun s _ => ?_, fun _ h => h.elim, fun _ h => h.elim, by rw [putR_M, putR_M, putR_M, putR_M], by rw [putR_loc, putR_loc, putR_loc, putR_loc, List.append_nil]⟩, fun d hd => ?_, fun d hd => ?_⟩
    · by_cases hs : y.dst = some s
      · rw [putR_T hny1, if_pos hs, putR_T hnx1, if_neg (fun h => a3 s h hs), putR_T hny, if_pos hs]
      · rw [r2.T s hs, putR_T hny1, if_neg hs]
    · rw [putR_T hny, putR_T hny1, if_pos hd, if_pos hd]
    · exact r2.T d (fun hh => a3 d hd hh)
  · -- a box of its own
    obtain ⟨e, he⟩ := Option.isSome_iff_exists.1 hdy
    have hqy : ∃ z, y.k = .alloc z := by cases hk : y.k <;> simp [allocK, hk] at hay; exact ⟨_, rfl⟩
    obtain ⟨z, hz⟩ := hqy
    have hgn : y.g = none := by simpa using hgy
    have hne := hny e he
    have ex : ∀ s : St, (tget s.T e).holds = false → execOp1 cf s y = some { s with T := (e, .bptr s.M.length s.loc.length 0) :: s.T, loc := s.loc ++ [z.map cv1] } := by
      intro s hs
      simp only [execOp1, hgn, hz, ev, he, tput, hs, Bool.false_eq_true, if_false]
    have hP : ∀ q, KillOK q → ∀ x : IV, (x = .bptr st.M.length st.loc.length 0) → kl q x = .bptr st.M.length st.loc.length 0 := by
      rintro q hq x rfl
      simp only [kl, kl1, klc]
      split
      · rename_i hh
        have := hq _ hh
        simp [IV.isR] at this
      · rfl
    have s0 : Sim (fun s => s = e) (fun x => x = .bptr st.M.length st.loc.length 0) [z.map cv1] st { st with T := (e, .bptr st.M.length st.loc.length 0) :: st.T, loc := st.loc ++ [z.map cv1] } := by
      refine ⟨fun s hs => ?_, fun s hs => ?_, fun s hs => by rw [hs]; exact hne, rfl, rfl⟩
      · simp only [tget]; rw [if_neg (fun h => hs h.symm)]
      · simp only [tget]; rw [if_pos hs.symm]
    obtain ⟨s2, q1, q2, q3⟩ := op_sim s0 hP (.inl hmx) (x := x) (fun s hs hh => a2 s (by rw [hh]; exact he) hs) (fun s hs hh => a3 s hs (by rw [hh]; exact he)) h1
    have q3 := q3 hmx
    rw [ex st1 (q2.H e rfl)] at h2
    simp only [Option.some.injEq] at h2
    subst h2
    refine ⟨_, s2, ex st hne, q1, ⟨fun s _ => ?_, fun _ h => h.elim, fun _ h => h.elim, q2.M, by rw [q2.loc, List.append_nil]⟩, fun d hd => ?_, fun d hd => ?_⟩
    · simp only [tget]
      split
      · rename_i hs
        rw [q2.Q s hs.symm, q3.1, q3.2]
      · rename_i hs
        exact q2.T s (fun h => hs h.symm)
    · rw [he] at hd; cases hd
      simp only [tget, if_true, q3.1, q3.2]
    · exact q2.T d (fun hh => a3 d hd (by rw [hh]; exact he))

theorem okRun_seq : ∀ {l : List IOp} {st st' : St}, SEq st st' → okRun cf st l → (∃ s, execOps cf st l = some s) → okRun cf st' l
  | [], _, _, _, _, _ => trivial
  | x :: l, st, st', h, hk, ⟨s, hs⟩ => by
    intro st1' h1'
    simp only [execOps] at hs
    split at hs
    rotate_left
    · cases hs
    rename_i st1 h1
    obtain ⟨s1, q1, q2, -⟩ := op_sim h noT (.inr rfl) (x := x) (fun _ _ h => h) (fun _ _ h => h) h1
    rw [q1] at h1'
    cases h1'
    obtain ⟨k1, k2⟩ := hk st1 h1
    exact ⟨fun hq d hd => by rw [q2.T d (fun h => h)]; exact k1 hq d hd, okRun_seq q2 k2 ⟨s, hs⟩⟩

/-- Of the operations still to come: their slots hold nothing. -/
def NHl (iops : List IOp) (st : St) (l : List Nat) : Prop := ∀ i ∈ l, ∀ x, iops[i]? = some x → swK x.k = true → ∀ d, x.dst = some d → (tget st.T d).holds = false

/-- No operation looks at, or writes, the slot of one that comes later in this order, if that one may be swapped. -/
def fwd (iops : List IOp) : List Nat → Prop
  | [] => True
  | i :: l => (∀ j ∈ l, ∀ x y, iops[i]? = some x → iops[j]? = some y → swK y.k = true → ∀ d, y.dst = some d → d ∉ x.use ∧ x.dst ≠ some d) ∧ fwd iops l

def execI (cf : CF) (iops : List IOp) (st : St) (l : List Nat) : Option St := execOps cf st (inOrder iops l)

theorem execI_cons {iops : List IOp} {i : Nat} {l : List Nat} {x : IOp} (hx : iops[i]? = some x) : execI cf iops st (i :: l) = match execOp1 cf st x with
    | some st => execI cf iops st l
    | none => none := by
  simp only [execI, inOrder, List.filterMap_cons, hx, execOps]
  cases execOp1 cf st x <;> rfl
theorem okI_cons {iops : List IOp} {i : Nat} {l : List Nat} {x : IOp} (hx : iops[i]? = some x) : okRun cf st (inOrder iops (i :: l)) = okRun cf st (x :: inOrder iops l) := by
  simp only [inOrder, List.filterMap_cons, hx]

/-- One step, and what is left. -/
theorem exec_step {iops : List IOp} {i : Nat} {l : List Nat} {x : IOp} {s : St} (hx : iops[i]? = some x) (h : execI cf iops st (i :: l) = some s) : ∃ st1, execOp1 cf st x = some st1 ∧ execI cf iops st1 l = some s := by
  rw [execI_cons hx] at h
  split at h
  · exact ⟨_, ‹_›, h⟩
  · cases h

theorem nh_step {iops : List IOp} {i : Nat} {l : List Nat} {x : IOp} (hx : iops[i]? = some x) (hf : fwd iops (i :: l)) (hn : NHl iops st (i :: l)) (h : execOp1 cf st x = some st1) : NHl iops st1 l := by
  intro j hj y hy hsw d hd
  obtain ⟨h1, h2⟩ := hf.1 j hj x y hx hy hsw d hd
  exact op_nh h2 (hn j (by simp [hj]) y hy hsw d hd) h1 h

structure Fine (cf : CF) (iops : List IOp) (st : St) (l : List Nat) (s : St) : Prop where
  lt : ∀ i ∈ l, i < iops.length
  nh : NHl iops st l
  fw : fwd iops l
  ok : okRun cf st (inOrder iops l)
  run : execI cf iops st l = some s

theorem Fine.step {iops : List IOp} {i : Nat} {l : List Nat} {s : St} (h : Fine cf iops st (i :: l) s) : ∃ x st1, iops[i]? = some x ∧ execOp1 cf st x = some st1 ∧ Fine cf iops st1 l s ∧ (quietN x.k = true → ∀ d, x.dst = some d → (tget st1.T d).holds = false) := by
  have hi := h.lt i (by simp)
  have hx : iops[i]? = some iops[i] := List.getElem?_eq_getElem hi
  obtain ⟨st1, q1, q2⟩ := exec_step hx h.run
  have hok := h.ok
  rw [okI_cons hx] at hok
  obtain ⟨k1, k2⟩ := hok st1 q1
  exact ⟨_, st1, hx, q1, ⟨fun j hj => h.lt j (by simp [hj]), nh_step hx h.fw h.nh q1, h.fw.2, k2, q2⟩, k1⟩

/-- One operation is moved ahead of others. -/
theorem fine_front {iops : List IOp} {i : Nat} {l2 : List Nat} : ∀ {l1 : List Nat} {st s : St}, (∀ y ∈ l1, indI iops y i = true) → fwd iops (i :: (l1 ++ l2)) → Fine cf iops st (l1 ++ i :: l2) s → ∃ s', Fine cf iops st (i :: (l1 ++ l2)) s' ∧ SEq s s'
  | [], st, s, _, _, h => ⟨s, h, .refl _⟩
  | y :: l1, st, s, hall, hfw, h => by
    obtain ⟨xy, st1, hy, h1, hF, hqy⟩ := h.step
    have hfw1 : fwd iops (i :: (l1 ++ l2)) := ⟨fun j hj => hfw.1 j (by simp at hj ⊢; rcases hj with hj | hj <;> simp [hj]), hfw.2.2⟩
    obtain ⟨s1, hF1, e1⟩ := fine_front (fun z hz => hall z (by simp [hz])) hfw1 hF
    obtain ⟨xi, st2, hi, h2, hF2, hqi⟩ := hF1.step
    have hind := hall y (by simp)
    have hni : ∀ d, xi.dst = some d → swK xi.k = true → (tget st.T d).holds = false := fun d hd hsw => h.nh i (by simp) xi hi hsw d hd
    have hsi : swK xi.k = true := by
      unfold indI at hind
      simp only [hy, hi, Bool.and_eq_true, Bool.or_eq_true] at hind
      rcases hind.2 with ⟨-, h⟩ | ⟨⟨⟨-, h⟩, -⟩, -⟩ <;> simp [swK, h]
    obtain ⟨t1, t2, q1, q2, q3, q4, q5⟩ := op_swap hy hi hind (fun hsw d hd => h.nh y (by simp) xy hy hsw d hd) (fun d hd => hni d hd hsi) h1 h2 hqy
    obtain ⟨s2, r1, r2⟩ := ops_seq q3 (show execOps cf st2 (inOrder iops (l1 ++ l2)) = some s1 from hF2.run)
    refine ⟨s2, ⟨fun j hj => h.lt j (by simp at hj ⊢; rcases hj with hj | hj | hj | hj <;> simp [hj]), fun j hj => h.nh j (by simp at hj ⊢; rcases hj with hj | hj | hj | hj <;> simp [hj]), hfw, ?_, ?_⟩, e1.trans r2⟩
    · rw [okI_cons hi]
      intro a ha
      rw [q1] at ha
      cases ha
      refine ⟨fun hq d hd => by rw [q4 d hd]; exact hqi hq d hd, ?_⟩
      show okRun cf t1 (inOrder iops (y :: (l1 ++ l2)))
      rw [okI_cons hy]
      intro b hb
      rw [q2] at hb
      cases hb
      exact ⟨fun hq d hd => by rw [q5 d hd]; exact hqy hq d hd, okRun_seq q3 hF2.ok ⟨_, hF2.run⟩⟩
    · rw [execI_cons hi, q1]
      show execI cf iops t1 (y :: (l1 ++ l2)) = _
      rw [execI_cons hy, q2]
      exact r1

/-- Two orders in which whatever hangs on one another stands alike. -/
theorem fine_perm {iops : List IOp} : ∀ {σ τ : List Nat} {st s : St}, σ.Perm τ → τ.Nodup → fwd iops σ → (∀ i j, indI iops i j = false → [i, j].Sublist τ → [i, j].Sublist σ) → Fine cf iops st τ s → ∃ s', execI cf iops st σ = some s' ∧ SEq s s'
  | [], τ, st, s, hp, _, _, _, h => by
    have : τ = [] := hp.symm.eq_nil
    subst this; exact ⟨s, h.run, .refl _⟩
  | x :: σ, τ, st, s, hp, hn, hfw, hd, h => by
    have hx : x ∈ τ := hp.subset (by simp)
    obtain ⟨l1, l2, rfl⟩ := List.append_of_mem hx
    have hσn : (x :: σ).Nodup := hp.nodup_iff.2 hn
    have hxσ : x ∉ σ := (List.nodup_cons.1 hσn).1
    have hp' : σ.Perm (l1 ++ l2) := (hp.trans List.perm_middle).cons_inv
    have hsub : (l1 ++ l2).Sublist (l1 ++ x :: l2) := List.Sublist.append (List.Sublist.refl _) (List.sublist_cons_self _ _)
    have hn' : (l1 ++ l2).Nodup := List.Sublist.nodup hsub hn
    have hind : ∀ y ∈ l1, indI iops y x = true := by
      intro y hy
      cases hi : indI iops y x with
      | true => rfl
      | false =>
        exfalso
        have hs : [y, x].Sublist (l1 ++ x :: l2) := by
          have h1 : [y].Sublist l1 := List.singleton_sublist.2 hy
          have h2 : [x].Sublist (x :: l2) := List.singleton_sublist.2 (by simp)
          exact h1.append h2
        have := hd y x hi hs
        cases this with
        | cons _ hh => exact hxσ (hh.subset (by simp))
        | cons_cons _ hh => exact hxσ (hh.subset (by simp))
    have hfw2 : fwd iops (x :: (l1 ++ l2)) := by
      have key : ∀ (l : List Nat), fwd iops l ↔ l.Pairwise fun i j => ∀ x y, iops[i]? = some x → iops[j]? = some y → swK y.k = true → ∀ d, y.dst = some d → d ∉ x.use ∧ x.dst ≠ some d := by
        intro l
        induction l with
        | nil => simp [fwd]
        | cons a l ih => rw [List.pairwise_cons, ← ih]; rfl
      refine ⟨fun j hj => hfw.1 j (hp'.symm.subset hj), ?_⟩
      have h1 := (key _).1 h.fw
      exact (key _).2 (h1.sublist hsub)
    obtain ⟨s1, hF, e1⟩ := fine_front hind hfw2 h
    obtain ⟨xi, st1, hi, h1, hF1, -⟩ := hF.step
    obtain ⟨s2, q1, q2⟩ := fine_perm hp' hn' hfw.2 (fun i j hi hs => by
      have := hd i j hi (hs.trans hsub)
      cases this with
      | cons _ hh => exact hh
      | cons_cons _ hh =>
        exfalso
        have : x ∈ l1 ++ l2 := hs.subset (by simp)
        exact hxσ (hp'.symm.subset this)) hF1
    refine ⟨s2, ?_, e1.trans q2⟩
    rw [execI_cons hi, h1]; exact q1

end
end Go.Idl

/- The check of a drawn region by its ideal operations. Conditions: none (definitions and lemmas). -/
namespace Go.Idl
open Go

def fwdB (iops : List IOp) : List Nat → Bool
  | [] => true
  | i :: l => (l.all fun j => match iops[i]?, iops[j]? with
      | some x, some y => !swK y.k || !(dstIn y.dst x.use || (match x.dst, y.dst with
        | some d, some e => d == e
        | _, _ => false))
      | _, _ => true) && fwdB iops l
theorem fwdB_ok {iops : List IOp} : ∀ {l : List Nat}, fwdB iops l = true → fwd iops l
  | [], _ => trivial
  | i :: l, h => by
    simp only [fwdB, Bool.and_eq_true, List.all_eq_true] at h
    refine ⟨fun j hj x y hx hy hsw d hd => ?_, fwdB_ok h.2⟩
    have := h.1 j hj
    simp only [hx, hy, hsw, hd, Bool.not_true, Bool.false_or, Bool.not_eq_true', Bool.or_eq_false_iff, dstIn] at this
    refine ⟨fun hm => ?_, fun hxd => ?_⟩
    · rw [List.contains_eq_mem, decide_eq_false_iff_not] at this; exact this.1 hm
    · rw [hxd] at this; simp at this

/-- Pairs that stand in each order that is drawn as they do in the given ones, or do not matter. -/
def freeI (iops : List IOp) (cs : List (List Nat)) (i j : Nat) : Bool := (indI iops i j && (indI iops j i || cs.all fun τ => bef τ i j)) || (indI iops j i && cs.all fun τ => bef τ j i)

def depsI (iops : List IOp) (cs : List (List Nat)) (n : Nat) : List (Nat × Nat) :=
  (List.range n).flatMap fun j => (List.range j).filterMap fun i => if freeI iops cs i j then none else some (i, j)

theorem mem_depsI {iops : List IOp} {cs : List (List Nat)} {n i j : Nat} : (i, j) ∈ depsI iops cs n ↔ i < j ∧ j < n ∧ freeI iops cs i j = false := by
  unfold depsI
  rw [List.mem_flatMap]
  constructor
  · rintro ⟨j', hj', hm⟩
    rw [List.mem_filterMap] at hm
    obtain ⟨i', hi', he⟩ := hm
    split at he
    · cases he
    · rename_i hf
      simp only [Option.some.injEq, Prod.mk.injEq] at he
      obtain ⟨rfl, rfl⟩ := he
      exact ⟨List.mem_range.1 hi', List.mem_range.1 hj', by simpa using hf⟩
  · rintro ⟨h1, h2, h3⟩
    exact ⟨j, List.mem_range.2 h2, List.mem_filterMap.2 ⟨i, List.mem_range.2 h1, by simp [h3]⟩⟩

/-- No operation looks at the slot of a later one, told by the edges. -/
def fwdC (c : List Nat) (iops : List IOp) (n : Nat) : Bool := (List.range n).all fun i => (List.range n).all fun j => i == j || (match iops[i]?, iops[j]? with
  | some x, some y => !swK y.k || !(dstIn y.dst x.use || (match x.dst, y.dst with
      | some d, some e => d == e
      | _, _ => false)) || (c.getD i 0).testBit j
  | _, _ => true)

def drawI (ops : Array Oper) (iops : List IOp) (ord : List Nat) (alts : List (List Nat)) : Bool :=
  let c := clo .any ops.toList []
  let cs := ord :: alts
  let D := depsI iops cs ops.size
  let A := D.filter fun p => !(c.getD p.2 0).testBit p.1
  backB .any ops && (cs.all fun τ => permB τ ops.size) && (cs.all fun τ => D.all fun p => !(c.getD p.2 0).testBit p.1 || bef τ p.1 p.2) && cov c A [] cs && (cs.all fun τ => fwdB iops τ) && fwdC c iops ops.size

theorem drawI_spec {ops : Array Oper} {iops : List IOp} {ord : List Nat} {alts : List (List Nat)} (h : drawI ops iops ord alts = true) {σ : List Nat} (hL : Lin .any ops σ) :
    ∃ τ ∈ ord :: alts, σ.Perm τ ∧ τ.Nodup ∧ fwd iops τ ∧ fwd iops σ ∧ ∀ i j, indI iops i j = false → [i, j].Sublist τ → [i, j].Sublist σ := by
  unfold drawI at h
  simp only [Bool.and_eq_true] at h
  obtain ⟨⟨⟨⟨⟨hb, hperm⟩, hclo⟩, hcov⟩, hfw⟩, hfc⟩ := h
  have hc := clo_spec hL ops.toList [] (fun k o hk => by simpa using hk) (fun k i hi => by simp at hi)
  obtain ⟨τ, hτ, ht⟩ := cov_spec hL.nodup hc (fun i j hm => by
    rw [List.mem_filter] at hm
    obtain ⟨h1, h2, h3⟩ := mem_depsI.1 hm.1
    exact ⟨(hL.mem i).2 (by omega), (hL.mem j).2 h2, by omega⟩) (by simp) hcov
  have hpτ : τ.Perm (List.range ops.size) := by
    rw [List.all_eq_true] at hperm
    exact permB_spec (hperm τ hτ)
  have hpσ : σ.Perm (List.range ops.size) := by
    rw [List.perm_ext_iff_of_nodup hL.nodup List.nodup_range]
    intro i; rw [hL.mem, List.mem_range]
  have hnτ : τ.Nodup := hpτ.nodup_iff.2 List.nodup_range
  have hfwσ : fwd iops σ := by
    have key : ∀ (l : List Nat), fwd iops l ↔ l.Pairwise fun i j => ∀ x y, iops[i]? = some x → iops[j]? = some y → swK y.k = true → ∀ d, y.dst = some d → d ∉ x.use ∧ x.dst ≠ some d := by
      intro l
      induction l with
      | nil => simp [fwd]
      | cons a l ih => rw [List.pairwise_cons, ← ih]; rfl
    rw [key, List.pairwise_iff_forall_sublist]
    intro i j hs x y hx hy hsw d hd
    have hil : i < ops.size := (hL.mem i).1 (hs.subset (by simp))
    have hjl : j < ops.size := (hL.mem j).1 (hs.subset (by simp))
    have hne := sub2_ne hL.nodup hs
    unfold fwdC at hfc
    rw [List.all_eq_true] at hfc
    have h1 := hfc i (List.mem_range.2 hil)
    rw [List.all_eq_true] at h1
    have h2 := h1 j (List.mem_range.2 hjl)
    simp only [hx, hy, hsw, hd, Bool.not_true, Bool.false_or, Bool.or_eq_true, beq_iff_eq, dstIn, Bool.not_eq_true', Bool.or_eq_false_iff] at h2
    rcases h2 with h2 | h2 | h2
    · exact absurd h2 hne
    · refine ⟨fun hm => ?_, fun hxd => ?_⟩
      · rw [List.contains_eq_mem, decide_eq_false_iff_not] at h2; exact h2.1 hm
      · rw [hxd] at h2; simp at h2
    · exact (sub2_asymm hL.nodup hs (hc _ _ h2)).elim
  rw [List.all_eq_true] at hfw
  refine ⟨τ, hτ, hpσ.trans hpτ.symm, hnτ, fwdB_ok (hfw τ hτ), hfwσ, ?_⟩
  have main : ∀ i j, i < j → freeI iops (ord :: alts) i j = false → j < ops.size → (([i, j].Sublist σ ∧ [i, j].Sublist τ) ∨ ([j, i].Sublist σ ∧ [j, i].Sublist τ)) := by
    intro i j hij hi hj
    have hD := mem_depsI.2 ⟨hij, hj, hi⟩
    cases hbit : ((clo .any ops.toList []).getD j 0).testBit i with
    | true =>
      have h1 := hc j i hbit
      rw [List.all_eq_true] at hclo
      have h2 := hclo τ hτ
      rw [List.all_eq_true] at h2
      have h3 := h2 (i, j) hD
      simp only [hbit, Bool.not_true, Bool.false_or] at h3
      exact .inl ⟨h1, bef_spec h3⟩
    | false => exact ht i j (List.mem_filter.2 ⟨hD, by simp only [hbit, Bool.not_false]⟩)
  intro i j hi hs
  have hne := sub2_ne hnτ hs
  have hil : i < ops.size := List.mem_range.1 (hpτ.subset (hs.subset (by simp)))
  have hjl : j < ops.size := List.mem_range.1 (hpτ.subset (hs.subset (by simp)))
  have allB : ∀ i j, ((ord :: alts).all fun τ => bef τ i j) = true → [i, j].Sublist τ := fun i j h => bef_spec (List.all_eq_true.1 h τ hτ)
  rcases Nat.lt_or_gt_of_ne hne with hlt | hlt
  · cases hf : freeI iops (ord :: alts) i j with
    | true =>
      simp only [freeI, hi, Bool.false_and, Bool.false_or, Bool.and_eq_true] at hf
      exact (sub2_asymm hnτ hs (allB _ _ hf.2)).elim
    | false =>
      rcases main i j hlt hf hjl with ⟨h1, h2⟩ | ⟨h1, h2⟩
      · exact h1
      · exact (sub2_asymm hnτ hs h2).elim
  · cases hf : freeI iops (ord :: alts) j i with
    | true =>
      simp only [freeI, hi, Bool.false_and, Bool.or_false, Bool.false_or, Bool.and_eq_true] at hf
      exact (sub2_asymm hnτ hs (allB _ _ hf.2)).elim
    | false =>
      rcases main j i hlt hf hil with ⟨h1, h2⟩ | ⟨h1, h2⟩
      · exact (sub2_asymm hnτ hs h2).elim
      · exact h1

end Go.Idl

/- Regions, sound. Conditions: none (definitions and lemmas). -/
namespace Go.Idl
open Go

/-- One operation with its destination and its guard. -/
def bIOp (cx : Cx) (ops : Array Oper) (n : Nat) (keep : List Nat) (o : Oper) (i : IOp) : Bool :=
  bOp cx o i.k && (match o.dst, i.dst with
    | none, none => true
    | some d, some e => d == e && decide (d < n) && !keep.contains d
    | _, _ => false) && (match o.guard, i.g with
    | none, none => true
    | some (j, b), some (s, c) => b == c && (match (ops[j]?).bind (·.dst) with
      | some t => t == s
      | none => false)
    | _, _ => false)

def clsOf (iops : List IOp) (i : Nat) : Cls := match iops[i]? with
  | some o => o.k.cls
  | none => .oth

/-- What holds between the steps of a body. -/
def Inv (cx : Cx) (w0 : World) (F0 : Nat → Prop) (ρ0 : Rho) (fp0 : Fp) (st0 : St) (a0 : Act) (keep : List Nat) (n : Nat) (st : St) (a : Act) (w : World) : Prop :=
  ∃ F ρ fp, Rel cx w F ρ fp [] st (regs a) ∧ Ext w0 F0 ρ0 fp0 [] (exB st0) w F ρ fp [] ∧ ShpLe st0 st ∧ n ≤ a.tmps.size ∧ a.defers = a0.defers ∧ ∀ s ∈ keep, regs a s = regs a0 s

section
variable {cx : Cx} {w0 : World} {F0 : Nat → Prop} {ρ0 : Rho} {fp0 : Fp} {st0 : St} {a0 : Act} {keep : List Nat} {n : Nat} {cf : CF} {ops : Array Oper} {iops : List IOp}
variable {w w1 : World} {F F1 : Nat → Prop} {ρ ρ1 : Rho} {fp fp1 : Fp} {st st' : St} {a : Act} {v : IV} {f' : List Nat}

def putI (st : St) (d : Option Nat) (v : IV) : St := match d with
  | some d => { st with T := tput st.T d v }
  | none => st

theorem regs_put {d : Nat} {v' : Value} (h : d < a.tmps.size) : regs (a.put (some d) v') = fun s => if s = d then v' else regs a s := by
  funext s
  simp only [regs, Act.put]
  by_cases hs : s = d
  · subst hs; simp [h]
  · have : d ≠ s := fun h => hs h.symm
    simp [Array.getD_eq_getD_getElem?, Array.getElem?_setIfInBounds_ne this, hs]

theorem put_size {d : Option Nat} {v' : Value} : (a.put d v').tmps.size = a.tmps.size := by
  cases d <;> simp [Act.put]
theorem put_defers' {d : Option Nat} {v' : Value} : (a.put d v').defers = a.defers := by
  cases d <;> rfl

/-- A value goes into its destination. -/
theorem inv_put {d : Option Nat} {v' : Value} (hR : Rel cx w F ρ fp (f' ++ []) st (regs a)) (hv : RSlot cx w F ρ st (look st (regs a) ρ w) v v' f') (hE : Ext w0 F0 ρ0 fp0 [] (exB st0) w F ρ fp (f' ++ [])) (hS : ShpLe st0 st)
    (hn : n ≤ a.tmps.size) (hd : a.defers = a0.defers) (hk : ∀ s ∈ keep, regs a s = regs a0 s) (hdn : ∀ e, d = some e → e < n ∧ e ∉ keep) : Inv cx w0 F0 ρ0 fp0 st0 a0 keep n (putI st d v) (a.put d v') w := by
  cases d with
  | none =>
    exact ⟨F, ρ, fp, hR.less (List.nil_sublist _), ⟨hE.size, hE.keep, hE.fpn, by simp, hE.Fm, hE.Fn, hE.rho, hE.env⟩, hS, hn, hd, hk⟩
  | some e =>
    obtain ⟨h1, h2⟩ := hdn e rfl
    have hlt : e < a.tmps.size := by omega
    have h3 := hR.put hv e
    rw [← regs_put hlt] at h3
    refine ⟨F, ρ, updFp fp (.S e) f', h3, ⟨hE.size, hE.keep, fun r b hb => ?_, by simp, hE.Fm, hE.Fn, hE.rho, hE.env⟩, ⟨hS.M, hS.loc⟩, by rw [put_size]; exact hn, by rw [put_defers']; exact hd, fun s hs => ?_⟩
    · unfold updFp at hb; split at hb
      · exact hE.xn b (by simp [hb])
      · exact hE.fpn r b hb
    · rw [regs_put hlt]
      have : s ≠ e := fun h => h2 (h ▸ hs)
      simp only [this, if_false]; exact hk s hs

theorem rslot_undef {lk} : RSlot cx w F ρ st lk (.tup []) undef [] := ⟨#[], rfl, .nil⟩

/-- Is the operation wanted? -/
theorem guard_ok {o : Oper} {i : IOp} (hR : Rel cx w F ρ fp [] st (regs a)) (hg : (match o.guard, i.g with
    | none, none => true
    | some (j, b), some (s, c) => b == c && (match (ops[j]?).bind (·.dst) with
      | some t => t == s
      | none => false)
    | _, _ => false) = true) {st' : St} (hev : execOp1 cf st i = some st') :
    (Region.wanted o (yielded ops a.tmps) = true ∧ ∃ v st1, ev cf st i.k = some (v, st1) ∧ st' = putI st1 i.dst v) ∨ (Region.wanted o (yielded ops a.tmps) = false ∧ st' = putI st i.dst (.tup [])) := by
  unfold execOp1 at hev
  split at hev
  · rename_i hi
    rw [hi] at hg
    have hog : o.guard = none := by
      cases h : o.guard with
      | none => rfl
      | some _ => rw [h] at hg; simp at hg
    refine .inl ⟨by simp [Region.wanted, hog], ?_⟩
    split at hev
    · rename_i v st1 he
      refine ⟨v, st1, he, ?_⟩
      unfold putI
      split at hev <;> simp_all
    · cases hev
  · rename_i s b hi
    rw [hi] at hg
    cases hog : o.guard with
    | none => rw [hog] at hg; simp at hg
    | some p =>
    obtain ⟨j, b'⟩ := p
    rw [hog] at hg
    simp only [Bool.and_eq_true, beq_iff_eq] at hg
    obtain ⟨hbb, hg⟩ := hg
    subst hbb
    split at hg
    rotate_left
    · cases hg
    rename_i t ht
    have hts : t = s := by simpa using hg
    subst hts
    have hy : ∀ x, regs a t = x → yielded ops a.tmps j = (match x with | .bool b => some b | _ => none) ∨ (∃ y, x = y ∧ ∀ b, y ≠ .bool b) := by
      intro x hx
      by_cases hb : ∃ b, x = .bool b
      · obtain ⟨b, rfl⟩ := hb
        left
        unfold yielded
        rw [ht]
        have : a.tmps[t]? = some (.bool b) := by
          simp only [regs, Array.getD_eq_getD_getElem?] at hx
          cases hq : a.tmps[t]? with
          | none => rw [hq] at hx; simp [undef] at hx
          | some y => rw [hq] at hx; simp at hx; rw [hx]
        simp [this]
      · right; exact ⟨x, rfl, fun b hh => hb ⟨b, hh⟩⟩
    have hyn : (∀ b, regs a t ≠ .bool b) → yielded ops a.tmps j = none := by
      intro hnb
      unfold yielded
      rw [ht]
      simp only [Option.bind_some]
      split
      · rename_i b hb
        exact absurd (by simp [regs, Array.getD_eq_getD_getElem?, hb]) (hnb b)
      · rfl
    have hs := hR.slots t
    split at hev
    · rename_i b1 hT
      rw [hT] at hs
      obtain ⟨hv, -, -⟩ := rslot_sc hs
      have hyy : yielded ops a.tmps j = some b1 := by
        rcases hy _ hv with h | ⟨y, h1, h2⟩
        · exact h
        · exact absurd h1.symm (h2 b1)
      split at hev
      · rename_i hbe
        refine .inl ⟨by simp [Region.wanted, hog, hyy, hbe], ?_⟩
        split at hev
        · rename_i v st1 he
          refine ⟨v, st1, he, ?_⟩
          unfold putI
          split at hev <;> simp_all
        · cases hev
      · rename_i hbe
        refine .inr ⟨by simp [Region.wanted, hog, hyy, hbe], ?_⟩
        unfold putI
        split at hev <;> simp_all
    · rename_i hT
      rw [hT] at hs
      obtain ⟨C, hC, hc⟩ := hs
      have hyy := hyn (fun b hb => by rw [hC] at hb; cases hb)
      refine .inr ⟨by simp [Region.wanted, hog, hyy], ?_⟩
      unfold putI
      split at hev <;> simp_all
    · cases hev

theorem dst_ok {o : Oper} {i : IOp} (h : (match o.dst, i.dst with
    | none, none => true
    | some d, some e => d == e && decide (d < n) && !keep.contains d
    | _, _ => false) = true) : o.dst = i.dst ∧ ∀ e, i.dst = some e → e < n ∧ e ∉ keep := by
  cases ho : o.dst with
  | none =>
    cases hi : i.dst with
    | none => exact ⟨rfl, by simp⟩
    | some e => rw [ho, hi] at h; cases h
  | some d =>
    cases hi : i.dst with
    | none => rw [ho, hi] at h; cases h
    | some e =>
      rw [ho, hi] at h
      simp only [Bool.and_eq_true, beq_iff_eq, decide_eq_true_eq, Bool.not_eq_true'] at h
      obtain ⟨⟨rfl, h2⟩, h3⟩ := h
      refine ⟨rfl, fun e he => ?_⟩
      cases he
      exact ⟨h2, by simpa using h3⟩

/-- Operations one by one, in whatever order they are listed. -/
theorem ops_Y (hcf : CallOK cx cf) (hck : ∀ (i : Nat) (o : Oper) (x : IOp), ops[i]? = some o → iops[i]? = some x → bIOp cx ops n keep o x = true) (hlen : iops.length ≤ ops.size) :
    ∀ {l : List Nat} {st : St} {a : Act} {w : World} {st' : St}, (∀ i ∈ l, i < iops.length) → Inv cx w0 F0 ρ0 fp0 st0 a0 keep n st a w → execOps cf st (inOrder iops l) = some st' → wpY cx.P ops (clsOf iops) (Inv cx w0 F0 ρ0 fp0 st0 a0 keep n st') l a w
  | [], st, a, w, st', _, hI, hev => by
    simp only [inOrder, List.filterMap_nil, execOps, Option.some.injEq] at hev
    subst hev; exact hI
  | i :: l, st, a, w, st', hl, hI, hev => by
    have hil := hl i (by simp)
    have hx : iops[i]? = some iops[i] := List.getElem?_eq_getElem hil
    have ho : ops[i]? = some (ops[i]'(by omega)) := Array.getElem?_eq_getElem _
    generalize iops[i] = x at hx
    generalize ops[i]'(by omega) = o at ho
    have hin : inOrder iops (i :: l) = x :: inOrder iops l := by simp [inOrder, hx]
    rw [hin] at hev
    simp only [execOps] at hev
    split at hev
    rotate_left
    · cases hev
    rename_i st1 h1
    have hc := hck i o x ho hx
    simp only [bIOp, Bool.and_eq_true] at hc
    obtain ⟨⟨hb, hd⟩, hg⟩ := hc
    obtain ⟨hde, hdn⟩ := dst_ok hd
    have hcls : clsOf iops i = x.k.cls := by simp [clsOf, hx]
    have rest : ∀ {a1 : Act} {w1 : World}, Inv cx w0 F0 ρ0 fp0 st0 a0 keep n st1 a1 w1 → wpY cx.P ops (clsOf iops) (Inv cx w0 F0 ρ0 fp0 st0 a0 keep n st') l a1 w1 := fun hI1 =>
      ops_Y hcf hck hlen (fun j hj => hl j (by simp [hj])) hI1 hev
    obtain ⟨F, ρ, fp, hR, hE, hS, hn, hdf, hk⟩ := hI
    refine ⟨o, ho, ?_⟩
    rw [hcls]
    rcases guard_ok hR hg h1 with ⟨hw, v, st2, he, rfl⟩ | ⟨hw, rfl⟩
    · have hres := op_res hcf hR hb he
      rw [← hde] at rest
      rw [← hde] at hdn
      cases hk2 : x.k.cls with
      | reg =>
        rw [hk2] at hres
        obtain ⟨rfl, v', hrun, hv⟩ := hres
        exact ⟨v', .inl ⟨hw, fun w' => hrun w' trivial⟩, rest (inv_put hR hv hE hS hn hdf hk hdn)⟩
      | ld =>
        rw [hk2] at hres
        obtain ⟨rfl, v', hrun, hv⟩ := hres
        exact ⟨v', .inl ⟨hw, hrun w (.refl w)⟩, rest (inv_put hR hv hE hS hn hdf hk hdn)⟩
      | oth =>
        rw [hk2] at hres
        simp only
        have ext : ∀ {w' F' ρ' fp' f'}, Ext w F ρ fp [] (exB st) w' F' ρ' fp' (f' ++ []) → Ext w0 F0 ρ0 fp0 [] (exB st0) w' F' ρ' fp' (f' ++ []) := fun h => hE.trans h fun l k hb => hS.box hb
        unfold wpOp
        simp only [ho, hw, if_true]
        left
        unfold Oper.wp
        rcases hres with ⟨v', w', F', ρ', fp', f', hy, hR', hv, hE', hS'⟩ | ⟨g, args, hrun, hcalls⟩
        · have hI1 := rest (inv_put hR' hv (ext hE') (hS.trans hS') hn hdf hk hdn)
          rcases hy with hy | ⟨hy, rfl⟩
          · rw [hy]; exact hI1
          · rw [hy]; exact hI1
        · rw [hrun]
          simp only [Oper.upon]
          refine hcalls.mono ?_
          rintro e w' ⟨v', F', ρ', fp', f', rfl, hR', hv, hE', hS'⟩
          exact rest (inv_put hR' hv (ext hE') (hS.trans hS') hn hdf hk hdn)
    · rw [← hde] at rest
      rw [← hde] at hdn
      have hI1 := rest (inv_put (f' := []) (by simpa using hR) rslot_undef (by simpa using hE) hS hn hdf hk hdn)
      cases hk2 : x.k.cls with
      | reg => exact ⟨undef, .inr ⟨hw, rfl⟩, hI1⟩
      | ld => exact ⟨undef, .inr ⟨hw, rfl⟩, hI1⟩
      | oth =>
        simp only
        unfold wpOp
        simp only [ho, hw, Bool.false_eq_true, if_false]
        exact hI1

end
end Go.Idl

/- Code and calls, sound. Conditions: none (definitions and lemmas). -/
namespace Go.Idl
open Go

def bOps (cx : Cx) (ops : Array Oper) (n : Nat) (keep : List Nat) : List Oper → List IOp → Bool
  | [], [] => true
  | o :: os, x :: xs => bIOp cx ops n keep o x && bOps cx ops n keep os xs
  | _, _ => false

/-- A region whose last operation compares a slice with nil. -/
def bNil (cx : Cx) (n : Nat) (keep : List Nat) : Code → List IOp → Opd → Nat → Bool
  | .region _ ops false, iops, x, t => bOps cx ops n keep (ops.toList.take iops.length) iops && ops.size == iops.length + 1 && (match ops[iops.length]? with
    | some o => o.guard.isNone && (match o.dst with | some d => d == t | none => false) && decide (t < n) && !keep.contains t && (match o.op with
      | .binOp .eql T a (.const v) _ => vEq v (.slice none 0 0) && isSliceOf cx.P T (fun _ => true) && bOpd cx a x
      | _ => false)
    | none => false)
  | _, _, _, _ => false

/-- Code of the model and its ideal twin. -/
def bCodeI (cx : Cx) (n : Nat) (keep : List Nat) : IC → Code → Bool
  | i, .scope c => bCodeI cx n keep i c
  | .skip, .skip => true
  | .skip, .label _ => true
  | .reg iops _ alts, .region _ ops draw => bOps cx ops n keep ops.toList iops && (!draw || drawB ops (clsOf iops) alts)
  | .regd iops ord _ alts, .region _ ops draw => bOps cx ops n keep ops.toList iops && draw && drawI ops iops ord alts
  | .seq x y, .seq a b => bCodeI cx n keep x a && bCodeI cx n keep y b
  | .nilc iops x t _ y, .seq a b => bNil cx n keep a iops x t && bCodeI cx n keep y b
  | .nilc2 iops x t _ y1 y2, .seq (.seq a1 a2) b => bNil cx n keep a1 iops x t && bCodeI cx n keep y1 a2 && bCodeI cx n keep y2 b
  | .cond d x y, .cond c a b => bOpd cx c d && bCodeI cx n keep x a && bCodeI cx n keep y b
  | .block id' b', .block id b => id == id' && bCodeI cx n keep b' b
  | .loop b', .loop b => bCodeI cx n keep b' b
  | .exit id', .exit id => id == id'
  | .ret, .ret => true
  | _, _ => false
abbrev bCode (cx : Cx) (n : Nat) (keep : List Nat) (c : Code) (i : IC) : Bool := bCodeI cx n keep i c

def exOf : Ex → Exit
  | .normal => .normal
  | .exit id => .exit id
  | .ret => .ret

section
variable {cx : Cx} {w0 : World} {F0 : Nat → Prop} {ρ0 : Rho} {fp0 : Fp} {st0 : St} {a0 : Act} {keep : List Nat} {n : Nat} {cf : CF}
variable {w : World} {st st' : St} {a : Act}

def PostI (cx : Cx) (w0 : World) (F0 : Nat → Prop) (ρ0 : Rho) (fp0 : Fp) (st0 : St) (a0 : Act) (keep : List Nat) (n : Nat) (ex : Ex) (st' : St) : Exit → Act → World → Prop :=
  fun e a w => e = exOf ex ∧ Inv cx w0 F0 ρ0 fp0 st0 a0 keep n st' a w

theorem bOps_spec {ops : Array Oper} : ∀ {os : List Oper} {xs : List IOp}, bOps cx ops n keep os xs = true → os.length = xs.length ∧ ∀ (i : Nat) (o : Oper) (x : IOp), os[i]? = some o → xs[i]? = some x → bIOp cx ops n keep o x = true
  | [], [], _ => ⟨rfl, by simp⟩
  | o :: os, x :: xs, h => by
    simp only [bOps, Bool.and_eq_true] at h
    obtain ⟨h1, h2⟩ := bOps_spec h.2
    refine ⟨by simp [h1], fun i o' x' ho hx => ?_⟩
    cases i with
    | zero => simp at ho hx; subst ho hx; exact h.1
    | succ i => exact h2 i o' x' (by simpa using ho) (by simpa using hx)
  | [], _ :: _, h => by cases h
  | _ :: _, [], h => by cases h

theorem inOrder_range (l : List IOp) : inOrder l (List.range l.length) = l := by
  unfold inOrder
  induction l with
  | nil => rfl
  | cons x l ih =>
    rw [List.length_cons, List.range_succ_eq_map, List.filterMap_cons]
    simp only [List.getElem?_cons_zero, List.filterMap_map]
    congr 1

theorem inv_drawn (h : Inv cx w0 F0 ρ0 fp0 st0 a0 keep n st a w) (k : Nat) : Inv cx w0 F0 ρ0 fp0 st0 a0 keep n st a { w with drawn := k } := by
  obtain ⟨F, ρ, fp, hR, hE, h1⟩ := h
  obtain ⟨hR', -⟩ := hR.grow (w' := { w with drawn := k }) (fun _ _ _ => rfl) (Nat.le_refl _) (Y := []) .nil (by simp)
  exact ⟨F, ρ, fp, by simpa using hR', ⟨hE.size, hE.keep, hE.fpn, hE.xn, hE.Fm, hE.Fn, hE.rho, hE.env⟩, h1⟩

theorem inv_cut (h : Inv cx w0 F0 ρ0 fp0 st0 a0 keep n st a w) (live : List Nat) : Inv cx w0 F0 ρ0 fp0 st0 a0 keep n (st.cut live) a w := by
  obtain ⟨F, ρ, fp, hR, hE, hS, h1⟩ := h
  obtain ⟨fp', k1, k2, k3⟩ := hR.restrict live
  exact ⟨F, ρ, fp', k3, ⟨hE.size, hE.keep, fun r b hb => hE.fpn r b (k1 r b hb), hE.xn, hE.Fm, hE.Fn, hE.rho, hE.env⟩, ⟨hS.M, hS.loc⟩, h1⟩

theorem eval_bool (h : Inv cx w0 F0 ρ0 fp0 st0 a0 keep n st a w) {c : Operand} {d : Opd} (hc : okOpd cx c d) {t : Bool} (ht : rd st.T d = .sc (.bool t)) : a.eval c = .bool t := by
  obtain ⟨F, ρ, fp, hR, -⟩ := h
  have := rd_rel hR hc
  rw [ht] at this
  exact (rslot_sc this).1

theorem wpY_app {P : Program} {ops : Array Oper} {cls : Nat → Cls} {K K2 : Act → World → Prop} {l l2 : List Nat} (hK : ∀ a w, K2 a w → wpY P ops cls K l2 a w) : ∀ {a : Act} {w : World}, wpY P ops cls K2 l a w → wpY P ops cls K (l ++ l2) a w := by
  induction l with
  | nil => intro a w h; exact hK a w h
  | cons i l ih =>
    intro a w h
    obtain ⟨o, ho, h⟩ := h
    refine ⟨o, ho, ?_⟩
    split at h
    · obtain ⟨v, hy, h⟩ := h; exact ⟨v, hy, ih h⟩
    · obtain ⟨v, hy, h⟩ := h; exact ⟨v, hy, ih h⟩
    · exact wpOp_mono (fun _ _ => ih) h

theorem empty_real {x : IV} {v : Value} {b : Bool} {F : Nat → Prop} {ρ : Rho} {fp : Fp} {X : List Nat} (hR : Rel cx w F ρ fp X st (regs a)) (h : RSlot cx w F ρ st (look st (regs a) ρ w) x v []) (hb : emptyL x = some b) :
    ∃ ad len cap, v = .slice ad len cap ∧ (b = false → ad.isSome = true) := by
  unfold emptyL at hb
  split at hb
  · rename_i e es c
    simp only [Option.some.injEq] at hb
    have hd : RDs w F [.lst e es c] [v] [] := by
      rcases h with ⟨h, _⟩ | h
      · exact h.elim
      · exact h
    obtain ⟨-, h1⟩ := hd.lst_inv
    rcases h1 with ⟨rfl, ad, cap, rfl, -⟩ | ⟨b1, o, cap, C, ty, fr, rfl, _⟩
    · exact ⟨ad, 0, cap, rfl, fun hf => by subst hb; simp at hf⟩
    · exact ⟨_, _, _, rfl, fun _ => rfl⟩
  · rename_i r c p e off n cl
    simp only [Option.some.injEq] at hb
    rcases h with ⟨⟨x0, v0, es, A0, N, cap0, A, cap, k1, k2, k3, hA, k5, k6, k7, k8⟩, _⟩ | h
    · refine ⟨A, n, cap, hA, fun hf => ?_⟩
      subst hb
      have hn : 0 < n := by
        rcases Nat.eq_zero_or_pos n with h | h
        · subst h; simp at hf
        · exact h
      obtain ⟨b, o1, -, rfl⟩ := k8.1 (by omega)
      rfl
    · cases h
  · cases hb

theorem run_eqnil' {P : Program} {T e : TypeId} (hT : P.underlying T = some (.slice e)) {ad : Option Addr} {len cap : Nat} (w : World) (d : Nat) : (Op.equalIn (d + 1) T (.slice ad len cap) (.slice none 0 0)).run P w = .ok ad.isNone w := by
  cases ad <;> simp [Op.equalIn, run_underlying hT]
theorem run_eqnil {P : Program} {T e : TypeId} (hT : P.underlying T = some (.slice e)) {ad : Option Addr} {len cap : Nat} (w : World) : (Op.equal T (.slice ad len cap) (.slice none 0 0)).run P w = .ok ad.isNone w :=
  run_eqnil' hT w 9999

theorem nilc_sound (hcf : CallOK cx cf) {x : Code} {G : Act → World → Prop} {Q : Exit → Act → World → Prop} {iops : List IOp} {e : Opd} {t : Nat} {live : List Nat} {f : St → Option (Ex × St)} {ex : Ex} (hb : bNil cx n keep x iops e t = true) (hev : nilStep (execOps cf st iops) e t live f = some (ex, st'))
    (hI : Inv cx w0 F0 ρ0 fp0 st0 a0 keep n st a w) (hy : ∀ {st : St} {a : Act} {w : World}, f st = some (ex, st') → Inv cx w0 F0 ρ0 fp0 st0 a0 keep n st a w → G a w) :
    x.wp cx.P (Exit.then G Q) a w := by
  obtain ⟨id, ops, rfl⟩ : ∃ id ops, x = .region id ops false := by
    unfold bNil at hb
    split at hb
    · exact ⟨_, _, rfl⟩
    · cases hb
  simp only [bNil, Bool.and_eq_true, beq_iff_eq] at hb
  obtain ⟨⟨hops, hsz⟩, hb⟩ := hb
  split at hb
  rotate_left
  · cases hb
  rename_i o ho
  simp only [Bool.and_eq_true, decide_eq_true_eq, Bool.not_eq_true', Option.isNone_iff_eq_none] at hb
  obtain ⟨⟨⟨⟨hg, hd⟩, htn⟩, htk⟩, hop⟩ := hb
  split at hd
  rotate_left
  · cases hd
  rename_i d hdst
  have hdt : d = t := eq_of_beq hd
  subst hdt
  split at hop
  rotate_left
  · cases hop
  rename_i T xo v yt hopk
  simp only [Bool.and_eq_true] at hop
  obtain ⟨⟨hv, hT⟩, hx⟩ := hop
  have hv' := vEq_eq hv
  subst hv'
  obtain ⟨el, hel, -⟩ := isSliceOf_ok hT
  obtain ⟨hlen, hck⟩ := bOps_spec hops
  have hck' : ∀ (i : Nat) (o : Oper) (x : IOp), ops[i]? = some o → iops[i]? = some x → bIOp cx ops n keep o x = true := fun i o x ho hx => by
    have hi : i < iops.length := (List.getElem?_eq_some_iff.1 hx).1
    exact hck i o x (by rw [List.getElem?_take_of_lt hi]; simpa using ho) hx
  unfold nilStep at hev
  split at hev
  rotate_left
  · cases hev
  rename_i st1 h1
  -- both ways
  obtain ⟨b, hbe, hboth⟩ : ∃ b, emptyL (rd st1.T e) = some b ∧ ∀ b0, (b = false → b0 = false) → f (st1.flag d b0 live) = some (ex, st') := by
    split at hev
    · rename_i he
      exact ⟨false, he, fun b0 h0 => by rw [h0 rfl]; exact hev⟩
    · rename_i he
      refine ⟨true, he, fun b0 _ => ?_⟩
      split at hev
      rotate_left
      · cases hev
      rename_i r r' hr hr'
      split at hev
      rotate_left
      · cases hev
      rename_i hrr
      simp only [Option.some.injEq] at hev
      subst hrr
      cases b0
      · rw [hr', hev]
      · rw [hr, hev]
    · cases hev
  refine wp_fixed (cls := clsOf iops) (K := G) (fun a w h => h) ?_
  rw [hsz, List.range_succ]
  refine wpY_app (K2 := Inv cx w0 F0 ρ0 fp0 st0 a0 keep n st1) (fun a1 w1 hI1 => ?_) (ops_Y hcf hck' (by omega) (fun i hi => List.mem_range.1 hi) hI (by rw [inOrder_range]; exact h1))
  refine ⟨o, ho, ?_⟩
  have hcls : clsOf iops iops.length = .oth := by simp [clsOf]
  rw [hcls]
  simp only
  have hI1' := hI1
  obtain ⟨F, ρ, fp, hR, hE, hS, hn, hdf, hk⟩ := hI1
  obtain ⟨ad, len, cap, hval, had⟩ := empty_real hR (rd_rel hR (bOpd_ok hx)) hbe
  have hw : Region.wanted o (yielded ops a1.tmps) = true := by simp [Region.wanted, hg]
  have hrun : (execOp a1.eval o).run cx.P w1 = .ok (.value (.bool ad.isNone)) w1 := by
    have he : a1.eval (.const (.slice none 0 0)) = .slice none 0 0 := rfl
    simp [execOp, hopk, hval, he, eqGuard, binOp, run_eqnil hel]
  unfold wpOp
  simp only [ho, hw, if_true]
  left
  unfold Oper.wp
  rw [hrun, Oper.upon_value, hdst]
  simp only [wpY]
  have hb0 : b = false → ad.isNone = false := fun h => by
    have := had h
    cases ad <;> simp_all
  refine hy (hboth ad.isNone hb0) ?_
  have := inv_put (cx := cx) (w0 := w0) (F0 := F0) (ρ0 := ρ0) (fp0 := fp0) (st0 := st0) (a0 := a0) (keep := keep) (n := n) (d := some d) (f' := []) (v' := .bool ad.isNone) (v := .sc (.bool ad.isNone)) (by simpa using hR) (sc_rslot rfl) (by simpa using hE) hS hn hdf hk
    (fun e he => by cases he; exact ⟨htn, by simpa using htk⟩)
  exact inv_cut this live

theorem exec_sound_aux (hcf : CallOK cx cf) (hm : cx.P.follows .mixedOrders = true) : ∀ (N : Nat) (c : Code), SizeOf.sizeOf c < N → ∀ {i : IC}, bCode cx n keep c i = true → ∀ {fuel : Nat} {st : St} {ex : Ex} {st' : St} {a : Act} {w : World},
    exec cf fuel i st = some (ex, st') → Inv cx w0 F0 ρ0 fp0 st0 a0 keep n st a w → c.wp cx.P (PostI cx w0 F0 ρ0 fp0 st0 a0 keep n ex st') a w := by
  intro N
  induction N with
  | zero => intro c hN; omega
  | succ N ihN =>
  intro c hN
  cases c with
  | skip =>
    intro i hb fuel st ex st' a w hev hI
    cases i <;> simp only [bCode, bCodeI] at hb <;> try (cases hb; done)
    simp only [exec, Option.some.injEq, Prod.mk.injEq] at hev
    obtain ⟨rfl, rfl⟩ := hev
    exact wp_skip ⟨rfl, hI⟩
  | label l =>
    intro i hb fuel st ex st' a w hev hI
    cases i <;> simp only [bCode, bCodeI] at hb <;> try (cases hb; done)
    simp only [exec, Option.some.injEq, Prod.mk.injEq] at hev
    obtain ⟨rfl, rfl⟩ := hev
    exact wp_label ⟨rfl, hI⟩
  | scope c =>
    have ih := fun {i : IC} => ihN c (by simp at hN; omega) (i := i)
    intro i hb fuel st ex st' a w hev hI
    have hb' : bCode cx n keep c i = true := by
      cases i <;> simpa only [bCode, bCodeI] using hb
    refine wp_scope_straight (wp_mono (ih hb' hev hI) ?_)
    rintro e a w ⟨rfl, h⟩
    cases ex <;> exact ⟨rfl, h⟩
  | region id ops draw =>
    intro i hb fuel st ex st' a w hev hI
    cases i <;> simp only [bCode, bCodeI] at hb <;> try (cases hb; done)
    rotate_left
    · rename_i iops ord live alts
      simp only [Bool.and_eq_true] at hb
      obtain ⟨⟨hops, hdraw⟩, hdr'⟩ := hb
      subst hdraw
      obtain ⟨hlen, hck⟩ := bOps_spec hops
      have hlen' : ops.size = iops.length := by simpa using hlen
      have hck' : ∀ (i : Nat) (o : Oper) (x : IOp), ops[i]? = some o → iops[i]? = some x → bIOp cx ops n keep o x = true := fun i o x ho hx => hck i o x (by simpa using ho) hx
      simp only [exec] at hev
      split at hev
      rotate_left
      · cases hev
      rename_i st1 hreg
      simp only [Option.some.injEq, Prod.mk.injEq] at hev
      obtain ⟨rfl, rfl⟩ := hev
      unfold execRegd at hreg
      split at hreg
      rotate_left
      · cases hreg
      rename_i st2 hmain
      split at hreg
      rotate_left
      · cases hreg
      rename_i hcond
      obtain ⟨hnh, hok, halts⟩ := hcond
      simp only [Option.some.injEq] at hreg
      subst hreg
      · refine wp_region_draw fun t => ?_
        simp only [Region.schedule, hm, Bool.true_or, if_true]
        have hb : backB .any ops = true := by
          unfold drawI at hdr'
          simp only [Bool.and_eq_true] at hdr'
          exact hdr'.1.1.1.1.1
        have hL := lin_go hb t
        obtain ⟨τ, hτ, h1, h2, h3, h4, h5⟩ := drawI_spec hdr' hL
        have hlt : ∀ i ∈ τ, i < iops.length := fun i hi => by rw [← hlen']; exact (hL.mem i).1 (h1.symm.subset hi)
        obtain ⟨sτ, k1, k2, k3⟩ : ∃ sτ, execI cf iops st τ = some sτ ∧ okRun cf st (inOrder iops τ) ∧ sτ.cut live = st2.cut live := by
          rcases List.mem_cons.1 hτ with rfl | hτ
          · exact ⟨st2, hmain, hok, rfl⟩
          · obtain ⟨g1, st3, g2, g3⟩ := halts τ hτ
            exact ⟨st3, g2, g1, g3⟩
        have hF : Fine cf iops st τ sτ := ⟨hlt, fun i hi x hx hsw d hd => by
          have := List.all_eq_true.1 hnh x (List.mem_of_getElem? hx)
          simpa [hsw, hd] using this, h3, k2, k1⟩
        obtain ⟨s', r1, r2⟩ := fine_perm h1 h2 h4 h5 hF
        have := ops_Y (l := Region.linearise .any ops t) hcf hck' (by omega) (fun i hi => by rw [← hlen']; exact (hL.mem i).1 hi) (inv_drawn hI (w.drawn + 1)) r1
        refine wpY_ops (fun a w h => ⟨rfl, ?_⟩) this
        rw [← k3, ← seq_cut r2]
        exact inv_cut h live
    rename_i iops live alts
    simp only [Bool.and_eq_true, Bool.or_eq_true, Bool.not_eq_true'] at hb
    obtain ⟨hops, hdr⟩ := hb
    obtain ⟨hlen, hck⟩ := bOps_spec hops
    have hlen' : ops.size = iops.length := by simpa using hlen
    have hck' : ∀ (i : Nat) (o : Oper) (x : IOp), ops[i]? = some o → iops[i]? = some x → bIOp cx ops n keep o x = true := fun i o x ho hx => hck i o x (by simpa using ho) hx
    simp only [exec] at hev
    split at hev
    rotate_left
    · cases hev
    rename_i st1 hreg
    simp only [Option.some.injEq, Prod.mk.injEq] at hev
    obtain ⟨rfl, rfl⟩ := hev
    unfold execReg at hreg
    split at hreg
    rotate_left
    · cases hreg
    rename_i st2 hmain
    split at hreg
    rotate_left
    · cases hreg
    rename_i halts
    simp only [Option.some.injEq] at hreg
    subst hreg
    have run : ∀ (τ : List Nat) (w1 : World), Inv cx w0 F0 ρ0 fp0 st0 a0 keep n st a w1 → τ ∈ List.range ops.size :: alts → (∀ i ∈ τ, i < ops.size) → wpY cx.P ops (clsOf iops) (Inv cx w0 F0 ρ0 fp0 st0 a0 keep n (st2.cut live)) τ a w1 := by
      intro τ w1 hI1 hτ hlt
      rcases List.mem_cons.1 hτ with rfl | hτ
      · have := ops_Y (l := List.range ops.size) hcf hck' (by omega) (fun i hi => by rw [← hlen']; exact hlt i hi) hI1 (st' := st2) (by rw [hlen', inOrder_range]; exact hmain)
        exact wpY_mono (fun a w h => inv_cut h live) this
      · obtain ⟨st3, h3, h4⟩ := halts τ hτ
        have := ops_Y (l := τ) hcf hck' (by omega) (fun i hi => by rw [← hlen']; exact hlt i hi) hI1 h3
        exact wpY_mono (fun a w h => by rw [← h4]; exact inv_cut h live) this
    cases draw with
    | false =>
      exact wp_fixed (fun a w h => ⟨rfl, h⟩) (run (List.range ops.size) w hI (by simp) (fun i hi => List.mem_range.1 hi))
    | true =>
      have hdr' : drawB ops (clsOf iops) alts = true := by
        rcases hdr with h | h
        · cases h
        · exact h
      refine wp_drawn hm hdr' (fun a w h => ⟨rfl, h⟩) fun τ hτ => run τ _ (inv_drawn hI _) hτ fun i hi => ?_
      rcases List.mem_cons.1 hτ with rfl | hτ
      · exact List.mem_range.1 hi
      · unfold drawB at hdr'
        simp only [Bool.and_eq_true] at hdr'
        have hp := List.all_eq_true.1 hdr'.1.1.2 τ hτ
        exact List.mem_range.1 ((permB_spec hp).subset hi)
  | seq x y =>
    have ihx := fun {i : IC} => ihN x (by simp at hN; omega) (i := i)
    have ihy := fun {i : IC} => ihN y (by simp at hN; omega) (i := i)
    intro i hb fuel st ex st' a w hev hI
    cases i <;> simp only [bCode, bCodeI] at hb <;> try (cases hb; done)
    rotate_left
    · rename_i iops e t live y'
      simp only [Bool.and_eq_true] at hb
      simp only [exec] at hev
      exact wp_seq (nilc_sound hcf hb.1 hev hI fun {st a w} hev hI => ihy hb.2 hev hI)
    · rename_i iops e t live y1 y2
      cases x <;> simp only [bCode, bCodeI] at hb <;> try (cases hb; done)
      rename_i x1 x2
      simp only [Bool.and_eq_true] at hb
      have ih2 := fun {i : IC} => ihN x2 (by simp at hN; omega) (i := i)
      simp only [exec] at hev
      refine wp_seq (wp_seq (nilc_sound hcf hb.1.1 hev hI fun {st a w} hev hI => ?_))
      unfold seqX at hev
      cases h1 : exec cf fuel y1 st with
      | none => simp [h1] at hev
      | some p =>
      obtain ⟨ex1, st1⟩ := p
      simp only [h1] at hev
      refine wp_mono (ih2 hb.1.2 h1 hI) ?_
      rintro e a1 w1 ⟨rfl, hI1⟩
      cases ex1 with
      | normal => exact ihy hb.2 hev hI1
      | exit id => simp only [Option.some.injEq, Prod.mk.injEq] at hev; obtain ⟨rfl, rfl⟩ := hev; exact ⟨rfl, hI1⟩
      | ret => simp only [Option.some.injEq, Prod.mk.injEq] at hev; obtain ⟨rfl, rfl⟩ := hev; exact ⟨rfl, hI1⟩
    rename_i x' y'
    simp only [Bool.and_eq_true] at hb
    simp only [exec] at hev
    cases h1 : exec cf fuel x' st with
    | none => simp [h1] at hev
    | some p =>
    obtain ⟨ex1, st1⟩ := p
    simp only [h1] at hev
    refine wp_seq (wp_mono (ihx hb.1 h1 hI) ?_)
    rintro e a1 w1 ⟨rfl, hI1⟩
    cases ex1 with
    | normal => exact ihy hb.2 hev hI1
    | exit id => simp only [Option.some.injEq, Prod.mk.injEq] at hev; obtain ⟨rfl, rfl⟩ := hev; exact ⟨rfl, hI1⟩
    | ret => simp only [Option.some.injEq, Prod.mk.injEq] at hev; obtain ⟨rfl, rfl⟩ := hev; exact ⟨rfl, hI1⟩
  | cond c x y =>
    have ihx := fun {i : IC} => ihN x (by simp at hN; omega) (i := i)
    have ihy := fun {i : IC} => ihN y (by simp at hN; omega) (i := i)
    intro i hb fuel st ex st' a w hev hI
    cases i <;> simp only [bCode, bCodeI] at hb <;> try (cases hb; done)
    rename_i d x' y'
    simp only [Bool.and_eq_true] at hb
    simp only [exec] at hev
    split at hev
    rotate_left
    · cases hev
    rename_i t ht
    have hc := eval_bool hI (bOpd_ok hb.1.1) ht
    refine wp_cond_split hc (fun h => ?_) (fun h => ?_)
    · subst h; simp only [if_true] at hev; exact ihx hb.1.2 hev hI
    · subst h; simp only [Bool.false_eq_true, if_false] at hev; exact ihy hb.2 hev hI
  | block id b =>
    have ih := fun {i : IC} => ihN b (by simp at hN; omega) (i := i)
    intro i hb fuel st ex st' a w hev hI
    cases i <;> simp only [bCode, bCodeI] at hb <;> try (cases hb; done)
    rename_i id' b'
    simp only [Bool.and_eq_true, beq_iff_eq] at hb
    obtain ⟨rfl, hb⟩ := hb
    simp only [exec] at hev
    cases h1 : exec cf fuel b' st with
    | none => simp [h1] at hev
    | some p =>
    obtain ⟨ex1, st1⟩ := p
    simp only [h1] at hev
    refine wp_block (wp_mono (ih hb h1 hI) ?_)
    rintro e a1 w1 ⟨rfl, hI1⟩
    cases ex1 with
    | normal => simp only [Option.some.injEq, Prod.mk.injEq] at hev; obtain ⟨rfl, rfl⟩ := hev; exact ⟨rfl, hI1⟩
    | ret => simp only [Option.some.injEq, Prod.mk.injEq] at hev; obtain ⟨rfl, rfl⟩ := hev; exact ⟨rfl, hI1⟩
    | exit j =>
      simp only at hev
      simp only [exOf, Exit.inBlock]
      split at hev
      · rename_i hj
        simp only [Option.some.injEq, Prod.mk.injEq] at hev; obtain ⟨rfl, rfl⟩ := hev
        simp only [hj, if_true]; exact ⟨rfl, hI1⟩
      · rename_i hj
        simp only [Option.some.injEq, Prod.mk.injEq] at hev; obtain ⟨rfl, rfl⟩ := hev
        simp only [hj, if_false]; exact ⟨rfl, hI1⟩
  | loop b =>
    have ih := fun {i : IC} => ihN b (by simp at hN; omega) (i := i)
    intro i hb fuel st ex st' a w hev hI
    cases i <;> simp only [bCode, bCodeI] at hb <;> try (cases hb; done)
    rename_i b'
    simp only [exec] at hev
    have key : ∀ (m : Nat) (st : St) (a : Act) (w : World), iter (exec cf fuel b') m st = some (ex, st') → Inv cx w0 F0 ρ0 fp0 st0 a0 keep n st a w → Code.rounds cx.P b (PostI cx w0 F0 ρ0 fp0 st0 a0 keep n ex st') m a w := by
      intro m
      induction m with
      | zero => intro st a w h; simp [iter] at h
      | succ m ihm =>
        intro st a w h hI
        rw [rounds_succ]
        simp only [iter] at h
        cases h1 : exec cf fuel b' st with
        | none => simp [h1] at h
        | some p =>
        obtain ⟨ex1, st1⟩ := p
        simp only [h1] at h
        refine wp_mono (ih hb h1 hI) ?_
        rintro e a1 w1 ⟨rfl, hI1⟩
        cases ex1 with
        | normal => exact ihm st1 a1 w1 h hI1
        | exit j => simp only [Option.some.injEq, Prod.mk.injEq] at h; obtain ⟨rfl, rfl⟩ := h; exact ⟨rfl, hI1⟩
        | ret => simp only [Option.some.injEq, Prod.mk.injEq] at h; obtain ⟨rfl, rfl⟩ := h; exact ⟨rfl, hI1⟩
    exact wp_loop_rounds fuel (key fuel st a w hev hI)
  | exit id =>
    intro i hb fuel st ex st' a w hev hI
    cases i <;> simp only [bCode, bCodeI] at hb <;> try (cases hb; done)
    simp only [beq_iff_eq] at hb
    subst hb
    simp only [exec, Option.some.injEq, Prod.mk.injEq] at hev
    obtain ⟨rfl, rfl⟩ := hev
    exact wp_exit ⟨rfl, hI⟩
  | ret =>
    intro i hb fuel st ex st' a w hev hI
    cases i <;> simp only [bCode, bCodeI] at hb <;> try (cases hb; done)
    simp only [exec, Option.some.injEq, Prod.mk.injEq] at hev
    obtain ⟨rfl, rfl⟩ := hev
    exact wp_ret ⟨rfl, hI⟩
  | rangeFunc f ps x y =>
    intro i hb
    cases i <;> simp [bCode, bCodeI] at hb
  | goto l =>
    intro i hb
    cases i <;> simp [bCode, bCodeI] at hb
  | refuse s =>
    intro i hb
    cases i <;> simp [bCode, bCodeI] at hb

theorem exec_sound (hcf : CallOK cx cf) (hm : cx.P.follows .mixedOrders = true) {c : Code} {i : IC} (hb : bCode cx n keep c i = true) {fuel : Nat} {st : St} {ex : Ex} {st' : St} {a : Act} {w : World}
    (hev : exec cf fuel i st = some (ex, st')) (hI : Inv cx w0 F0 ρ0 fp0 st0 a0 keep n st a w) : c.wp cx.P (PostI cx w0 F0 ρ0 fp0 st0 a0 keep n ex st') a w :=
  exec_sound_aux hcf hm (SizeOf.sizeOf c + 1) c (Nat.lt_succ_self _) hb hev hI

end

def bRes (P : Program) : ResultVar → RVar → Bool
  | .tmp t, .t s => t == s
  | .cell a t, .c b sz ag => a == b && bSize P t sz && bAgg P t ag
  | _, _ => false
def bRess (P : Program) : List ResultVar → List RVar → Bool
  | [], [] => true
  | x :: xs, y :: ys => bRes P x y && bRess P xs ys
  | _, _ => false
theorem bRess_ok {P : Program} : ∀ {xs : List ResultVar} {ys : List RVar}, bRess P xs ys = true → okRess P xs ys
  | [], [], _ => trivial
  | x :: xs, y :: ys, h => by
    simp only [bRess, Bool.and_eq_true] at h
    refine ⟨?_, bRess_ok h.2⟩
    cases x <;> cases y <;> simp only [bRes] at h
    · simpa [okRes] using h.1
    · exact absurd h.1 (by simp)
    · exact absurd h.1 (by simp)
    · simp only [Bool.and_eq_true, beq_iff_eq] at h
      exact ⟨h.1.1.1, bSize_ok h.1.1.2, bAgg_ok h.1.2⟩
  | [], _ :: _, h => by cases h
  | _ :: _, [], h => by cases h

/-- A function of the model and its ideal twin. -/
def bFun (cx : Cx) (rf : Func) (f : IFun) : Bool := (rf.name != "runtime.NumGoroutine") && bRess cx.P rf.results.toList f.res && (match rf.body with
  | some c => bCode cx rf.ntmps f.keep c f.body
  | none => false)

/-- The table's functions are those of the program. -/
def TblOK (cx : Cx) (tb : Tbl) : Prop := ∀ f fn, tb f = some fn → ∃ rf, cx.P.funcs[cx.fid f]? = some rf ∧ bFun cx rf fn = true

theorem regs_args (vs : List Value) (k : Nat) : regs { tmps := vs.toArray ++ Array.replicate k undef, defers := [] } = argTm vs := by
  funext s
  simp only [regs, argTm, Array.getD_eq_getD_getElem?, List.getD_eq_getElem?_getD]
  by_cases hs : s < vs.length
  · rw [Array.getElem?_append_left (by simpa using hs)]; simp
  · rw [Array.getElem?_append_right (by simpa using hs), List.getElem?_eq_none (by omega)]
    by_cases h2 : s - vs.length < k
    · simp [h2]
    · simp [h2]

theorem callN_sound {cx : Cx} {tb : Tbl} (htb : TblOK cx tb) (hm : cx.P.follows .mixedOrders = true) : ∀ n, CallOK cx (callN tb n)
  | 0 => fun f lent args M r h => by simp [callN] at h
  | n + 1 => fun f lent args M r h => by
    have ih := callN_sound htb hm n
    simp only [callN] at h
    split at h
    rotate_left
    · cases h
    rename_i fn hfn
    obtain ⟨rf, hrf, hb⟩ := htb f fn hfn
    unfold bFun at hb
    simp only [Bool.and_eq_true, bne_iff_ne, ne_eq] at hb
    obtain ⟨⟨hname, hress⟩, hb⟩ := hb
    split at hb
    rotate_left
    · cases hb
    rename_i c hc
    refine ⟨⟨rf, hrf, by simpa using hname, by rw [hc]; rfl⟩, ?_⟩
    intro w F ρ fp vs hlen hR
    unfold runFun at h
    split at h
    · cases h
    rename_i hkeep
    have hkeep' : ∀ s ∈ lent, s ∈ fn.keep := by
      simp only [Bool.not_eq_true', Bool.not_eq_false, List.all_eq_true] at hkeep
      intro s hs
      simpa using hkeep s hs
    let a0 : Act := { tmps := vs.toArray ++ Array.replicate (rf.ntmps - vs.toArray.size) undef, defers := [] }
    have hregs : regs a0 = argTm vs := regs_args vs _
    have hI : Inv cx w F ρ fp (argSt args M) a0 fn.keep rf.ntmps (argSt args M) a0 w :=
      ⟨F, ρ, fp, by rw [hregs]; exact hR, Ext.refl _ _ _ _ _ _, .refl _, by simp [a0]; omega, rfl, fun _ _ => rfl⟩
    have body : ∀ {ex : Ex} {st1 : St}, exec (callN tb n) n fn.body (argSt args M) = some (ex, st1) → (ex = .normal ∨ ex = .ret) → ∀ {vals st2 back st3}, st1.retvs fn.res = some (vals, st2) → st2.backs lent = some (back, st3) →
        st3.leave (packRes vals) back = some r → Calls cx.P (cx.fid f) vs.toArray w (RetPost cx w F ρ fp M lent vs r) := by
      intro ex st1 h1 hex vals st2 back st3 h2 h3 h4
      refine calls_of_wp hrf hc ?_
      refine wp_mono (exec_sound ih hm hb h1 hI) ?_
      rintro e a1 w1 ⟨rfl, F1, ρ1, fp1, hR1, hE1, hS1, -, hd1, hk1⟩
      obtain ⟨u, q1, q2⟩ := leave_ok rfl hR1 hE1 hS1 (bRess_ok hress) (fun s hs => by rw [hk1 s (hkeep' s hs), hregs]; rfl) h2 h3 h4
      rcases hex with rfl | rfl
      · exact ⟨hd1, u, q1, q2⟩
      · exact ⟨hd1, u, q1, q2⟩
    change (match exec (callN tb n) n fn.body (argSt args M) with
      | some (.exit _, _) => none
      | some (_, st) => _
      | none => none) = some r at h
    cases h1 : exec (callN tb n) n fn.body (argSt args M) with
    | none => simp [h1] at h
    | some p =>
    obtain ⟨ex, st1⟩ := p
    have rest : (match st1.retvs fn.res with
        | some (vs, st) => match st.backs lent with
          | some (back, st) => st.leave (packRes vs) back
          | none => none
        | none => none) = some r → (ex = .normal ∨ ex = .ret) → Calls cx.P (cx.fid f) vs.toArray w (RetPost cx w F ρ fp M lent vs r) := by
      intro h hex
      split at h
      rotate_left
      · cases h
      rename_i vals st2 h2
      split at h
      rotate_left
      · cases h
      rename_i back st3 h3
      exact body h1 hex h2 h3 h
    rw [h1] at h
    cases ex with
    | exit j => simp at h
    | normal => exact rest h (.inl rfl)
    | ret => exact rest h (.inr rfl)

end Go.Idl

/- From an ideal call to a call of the model that writes nothing that was there. Conditions: none (lemmas). -/
namespace Go.Idl
open Go

def oldF (w : World) : Nat → Prop := fun b => b < w.heap.size

/-- An argument of the outermost call: data that nobody writes. -/
inductive ArgR (w : World) : IV → Value → Prop
  | one {x : IV} {v : Value} (h : RDs w (oldF w) [x] [v] []) : ArgR w x v
  | agg {cs : List IV} {C : Array Value} (h : RDs w (oldF w) cs C.toList []) : ArgR w (.agg cs) (.agg C)

inductive ArgsR (w : World) : List IV → List Value → Prop
  | nil : ArgsR w [] []
  | cons {x v xs vs} (h : ArgR w x v) (t : ArgsR w xs vs) : ArgsR w (x :: xs) (v :: vs)

theorem ArgsR.len {w xs vs} (h : ArgsR w xs vs) : xs.length = vs.length := by
  induction h with
  | nil => rfl
  | cons _ _ ih => simp [ih]

section
variable {cx : Cx} {w : World}

theorem rds_cat {F : Nat → Prop} {ρ : Rho} {st : St} {lk} : ∀ {cs : List IV} {vs : List Value}, RDs w F cs vs [] → Cat (RC cx w F ρ st lk) cs vs []
  | [], vs, h => by cases h; exact .nil
  | c :: cs, vs, h => by
    obtain ⟨v, us, f1, f2, rfl, hf, h1, h2⟩ := h.cons_inv
    obtain ⟨rfl, rfl⟩ := List.append_eq_nil_iff.1 hf.symm
    exact Cat.cons (f := []) (fp := []) (.inr h1) (rds_cat h2)

theorem ArgR.slot {x v} (h : ArgR w x v) {ρ : Rho} {st : St} {lk} : RSlot cx w (oldF w) ρ st lk x v [] := by
  cases h with
  | agg h => exact ⟨_, rfl, rds_cat h⟩
  | one h =>
    cases x with
    | tup vs => cases h
    | agg cs => cases h
    | un => exact rfl
    | _ => exact .inr h

theorem tget_argsT {xs : List IV} (s k : Nat) : tget ((xs.zipIdx k).map fun (v, i) => (i, v)) s = if k ≤ s then xs.getD (s - k) .un else .un := by
  induction xs generalizing k with
  | nil => simp [tget]
  | cons x xs ih =>
    rw [List.zipIdx_cons, List.map_cons]
    simp only [tget]
    by_cases hk : k = s
    · subst hk; simp
    · rw [if_neg hk, ih]
      by_cases h1 : k ≤ s
      · have h2 : k + 1 ≤ s := by omega
        rw [if_pos h1, if_pos h2, show s - k = (s - (k + 1)) + 1 by omega]
        simp
      · have h2 : ¬ k + 1 ≤ s := by omega
        rw [if_neg h1, if_neg h2]

theorem ArgsR.get {xs vs} (h : ArgsR w xs vs) : ∀ s, (xs.getD s .un = .un ∧ xs.length ≤ s) ∨ ArgR w (xs.getD s .un) (vs.getD s undef) := by
  induction h with
  | nil => intro s; exact .inl ⟨by simp, by simp⟩
  | cons h t ih =>
    intro s
    cases s with
    | zero => exact .inr (by simpa using h)
    | succ s =>
      rcases ih s with ⟨h1, h2⟩ | h1
      · exact .inl ⟨by simpa using h1, by simpa using h2⟩
      · exact .inr (by simpa using h1)

theorem argRel {xs vs} (h : ArgsR w xs vs) (ρ : Rho) : Rel cx w (oldF w) ρ (fun _ => []) [] (argSt xs []) (argTm vs) := by
  have hbox : ∀ l k, (argSt xs []).box l k = none := fun l k => by simp [St.box, argSt]
  refine ⟨fun s => ?_, fun l k cs hb => (by rw [hbox] at hb; cases hb), fun _ _ _ => rfl, fun _ => List.nodup_nil, fun _ _ _ _ hb => absurd hb (by simp), fun _ _ hb => absurd hb (by simp), fun _ _ hb => absurd hb (by simp), fun _ hb => hb, List.nodup_nil, fun _ _ hb => absurd hb (by simp), fun _ hb => absurd hb (by simp), fun _ hb => absurd hb (by simp)⟩
  have : tget (argSt xs []).T s = xs.getD s .un := by
    have := tget_argsT (xs := xs) s 0
    simpa [argSt] using this
  rw [this]
  rcases h.get s with ⟨h1, -⟩ | h1
  · rw [h1]; exact rcomp_un
  · exact h1.slot

/-- The ideal call answers true: so does the model's. -/
theorem law_calls {tb : Tbl} (htb : TblOK cx tb) (hm : cx.P.follows .mixedOrders = true) {f : Lab} {xs : List IV} {vs : List Value} (h : ArgsR w xs vs) {n : Nat} (hc : callN tb n f [] xs [] = some ⟨.sc (.bool true), [], [], []⟩) :
    Calls cx.P (cx.fid f) vs.toArray w (fun e w' => e = .returned (.bool true) ∧ RowKit.Below w.heap.size w w') := by
  refine ((callN_sound htb hm n f [] xs [] _ hc).2 w (oldF w) (fun _ _ => 0) (fun _ => []) vs h.len.symm (argRel h _)).mono ?_
  rintro e w' ⟨v', F', ρ', fp', Xb, rfl, hR, hE, -⟩
  have hs := hR.slots 0
  have hv : v' = .bool true := (rslot_sc hs).1
  subst hv
  refine ⟨rfl, ⟨hE.env.1, hE.env.2.1, hE.env.2.2, hE.size, fun k hk => hE.keep k hk (by simp) (by simp)⟩⟩

end

/-- A slice of small integers that came in. -/
theorem arg_ints {w : World} {k : IntKind} {a : Option Addr} {len cap : Nat} {zs : List Int} (h : (a = none ∧ len = 0 ∧ cap = 0 ∧ zs = []) ∨
    ∃ x, a = some x ∧ len ≤ cap ∧ zs.length = cap ∧ (∀ i, i < zs.length → w.cell? (x.add i) = some (.int k (zs.getD i 0)))) :
    ArgR w (.lst 1 ((zs.take len).map fun n => [.sc (.int k n)]) false) (.slice a len cap) := by
  rcases h with ⟨rfl, rfl, rfl, rfl⟩ | ⟨x, rfl, h1, h2, h3⟩
  · exact .one (.lst0 (by simp) .nil)
  · rcases Nat.eq_zero_or_pos len with h0 | h0
    · subst h0
      simp only [List.take_zero, List.map_nil]
      exact .one (.lst0 (by simp) .nil)
    · have hx := h3 0 (by omega)
      rw [show x.add 0 = x from rfl] at hx
      obtain ⟨b, o, sp⟩ := x
      unfold World.cell? at hx
      split at hx
      rotate_left
      · cases hx
      rename_i C ty fr hb
      simp only at hb
      cases sp with
      | some _ => simp at hx
      | none =>
      have hcell : ∀ i, i < zs.length → C[o + i]? = some (.int k (zs.getD i 0)) := fun i hi => by
        have := h3 i hi
        rw [addr_add, cell_of hb] at this
        exact this
      have hlen : ((zs.take len).map fun n => [IV.sc (.int k n)]).length = len := by simp; omega
      have hd : ∀ (l : List Int) (m : Nat), (∀ i, i < l.length → C[m + i]? = some (.int k (l.getD i 0))) → RDs w (oldF w) (l.map fun n => [IV.sc (.int k n)]).flatten ((C.toList.drop m).take l.length) [] := by
        intro l
        induction l with
        | nil => intro m _; simp; exact .nil
        | cons n l ih =>
          intro m hl
          have h0 := hl 0 (by simp)
          have hm : C.toList.drop m = .int k n :: C.toList.drop (m + 1) := by
            rw [List.drop_eq_getElem?_toList_append]
            have : C.toList[m]? = some (.int k n) := by simpa using h0
            rw [this]; rfl
          rw [hm, List.length_cons, List.take_succ_cons, List.map_cons, List.flatten_cons]
          refine .sc rfl (ih (m + 1) fun i hi => ?_)
          have := hl (i + 1) (by simp; omega)
          simpa [Nat.add_assoc, Nat.add_comm 1 i] using this
      have hb' : b < w.heap.size := by
        rcases Nat.lt_or_ge b w.heap.size with h | h
        · exact h
        · rw [Array.getElem?_eq_none h] at hb; cases hb
      have hdd := hd (zs.take len) o (fun i hi => by
        rw [List.length_take] at hi
        rw [hcell i (by omega)]
        simp [List.getD_eq_getElem?_getD, List.getElem?_take_of_lt (show i < len by omega)])
      have hll : (zs.take len).length = len := by rw [List.length_take]; omega
      rw [hll] at hdd
      have := RDs.lst (w := w) (F := oldF w) (e := 1) (es := (zs.take len).map fun n => [IV.sc (.int k n)]) (clip := false) (b := b) (o := o) (cap := cap) (xs := []) (vs := []) (fp := []) hb' hb
        (by rw [hlen, Nat.mul_one]; exact hdd) (fun x hx => by simp only [List.mem_map] at hx; obtain ⟨n, _, rfl⟩ := hx; rfl) (by simp) (by rw [hlen]; exact h1) .nil
      rw [hlen] at this
      exact .one this

theorem tbl_ok {cx : Cx} : ∀ {L : List (Nat × IFun)}, (∀ p ∈ L, ∃ rf, cx.P.funcs[cx.fid p.1]? = some rf ∧ bFun cx rf p.2 = true) → TblOK cx (tbOf L)
  | [], _, f, fn, h => by cases h
  | (k, g) :: r, hL, f, fn, h => by
    simp only [tbOf] at h
    split at h
    · rename_i hk
      subst hk
      simp only [Option.some.injEq] at h
      subst h
      exact hL (k, g) (by simp)
    · exact tbl_ok (fun p hp => hL p (by simp [hp])) f fn h

end Go.Idl

/- Walking an ideal call: what its code comes to, as a proposition. Conditions: none (definitions and lemmas). -/
namespace Go.Idl
open Go

/-- A call comes to an answer, with fuel enough. -/
def Ev (tb : Tbl) (f : Lab) (lent : List Nat) (args : List IV) (M : List Boxes) (r : Ret) : Prop := ∃ N, ∀ n, N ≤ n → callN tb n f lent args M = some r

open Classical in
/-- What calls answer, with fuel enough. -/
noncomputable def limF (tb : Tbl) : CF := fun f lent args M => if h : ∃ r, Ev tb f lent args M r then some (Classical.choose h) else none

def WO (tb : Tbl) (ops : List IOp) (st : St) (Q : St → Prop) : Prop := ∃ st', execOps (limF tb) st ops = some st' ∧ Q st'

def loopN (step : St → (Ex → St → Prop) → Prop) (Q : Ex → St → Prop) : Nat → St → Prop
  | 0, _ => False
  | k + 1, st => step st fun ex st' => match ex with
    | .normal => loopN step Q k st'
    | e => Q e st'

def nilW (x : Opd) (t : Nat) (live : List Nat) (st : St) (f : St → (Ex → St → Prop) → Prop) (Q : Ex → St → Prop) : Prop := match emptyL (rd st.T x) with
  | some false => f (st.flag t false live) Q
  | some true => ∃ ex st', f (st.flag t true live) (fun e s => e = ex ∧ s = st') ∧ f (st.flag t false live) (fun e s => e = ex ∧ s = st') ∧ Q ex st'
  | none => False

def wp (tb : Tbl) : IC → St → (Ex → St → Prop) → Prop
  | .skip, st, Q => Q .normal st
  | .reg ops live alts, st, Q => WO tb ops st fun st1 => (∀ p ∈ alts, WO tb (inOrder ops p) st fun st2 => st2.cut live = st1.cut live) ∧ Q .normal (st1.cut live)
  | .regd ops ord live alts, st, Q => NHops st ops = true ∧ okRun (limF tb) st (inOrder ops ord) ∧ WO tb (inOrder ops ord) st fun st1 => (∀ p ∈ alts, okRun (limF tb) st (inOrder ops p) ∧ WO tb (inOrder ops p) st fun st2 => st2.cut live = st1.cut live) ∧ Q .normal (st1.cut live)
  | .seq a b, st, Q => wp tb a st fun ex st' => match ex with
    | .normal => wp tb b st' Q
    | e => Q e st'
  | .nilc ops x t live y, st, Q => WO tb ops st fun st1 => nilW x t live st1 (wp tb y) Q
  | .nilc2 ops x t live y1 y2, st, Q => WO tb ops st fun st1 => nilW x t live st1 (fun st Q => wp tb y1 st fun ex st' => match ex with
    | .normal => wp tb y2 st' Q
    | e => Q e st') Q
  | .cond c a b, st, Q => match rd st.T c with
    | .sc (.bool t) => if t = true then wp tb a st Q else wp tb b st Q
    | _ => False
  | .block id b, st, Q => wp tb b st fun ex st' => match ex with
    | .exit i => if i = id then Q .normal st' else Q (.exit i) st'
    | e => Q e st'
  | .loop b, st, Q => ∃ k, loopN (wp tb b) Q k st
  | .exit id, st, Q => Q (.exit id) st
  | .ret, st, Q => Q .ret st

section
variable {tb : Tbl}

theorem Ev.det {f lent args M r r'} (h : Ev tb f lent args M r) (h' : Ev tb f lent args M r') : r = r' := by
  obtain ⟨N, hN⟩ := h
  obtain ⟨N', hN'⟩ := h'
  have h1 := hN (max N N') (by omega)
  have h2 := hN' (max N N') (by omega)
  rw [h1] at h2
  exact Option.some.inj h2

theorem lim_ev {f lent args M r} (h : limF tb f lent args M = some r) : Ev tb f lent args M r := by
  unfold limF at h
  split at h
  · rename_i hex
    simp only [Option.some.injEq] at h
    rw [← h]; exact Classical.choose_spec hex
  · cases h

theorem ev_lim {f lent args M r} (h : Ev tb f lent args M r) : limF tb f lent args M = some r := by
  have hex : ∃ r, Ev tb f lent args M r := ⟨r, h⟩
  unfold limF
  rw [dif_pos hex]
  congr 1
  exact (Classical.choose_spec hex).det h

theorem callWith_lim {st : St} {f : Lab} {caps : List IV} {args : List (Mode × Opd)} {p : Bool} {v : IV} {st' : St} (h : st.callWith (limF tb) f caps args p = some (v, st')) :
    ∃ N, ∀ n, N ≤ n → st.callWith (callN tb n) f caps args p = some (v, st') := by
  unfold St.callWith at h ⊢
  split at h
  rotate_left
  · cases h
  rename_i vs st1 fz ss hargs
  cases p with
  | true =>
    simp only [if_true] at h ⊢
    split at h
    · cases h
    rename_i hc
    cases hl : limF tb f [] vs [] with
    | none => simp [hl] at h
    | some r =>
    obtain ⟨N, hN⟩ := lim_ev hl
    rw [hl] at h
    refine ⟨N, fun n hn => ?_⟩
    simp only [hc, if_false, Bool.false_eq_true, hN n hn]
    exact h
  | false =>
    simp only [Bool.false_eq_true, if_false] at h ⊢
    split at h
    · cases h
    rename_i hc
    cases hl : limF tb f (lents args 0) (vs ++ caps) (st1.M ++ [st1.loc]) with
    | none => simp [hl] at h
    | some r =>
    obtain ⟨N, hN⟩ := lim_ev hl
    rw [hl] at h
    refine ⟨N, fun n hn => ?_⟩
    simp only [hc, if_false, Bool.false_eq_true, hN n hn]
    exact h

theorem ev_limN {st : St} {k : K} {v : IV} {st' : St} (h : ev (limF tb) st k = some (v, st')) : ∃ N, ∀ n, N ≤ n → ev (callN tb n) st k = some (v, st') := by
  cases k with
  | call f args p => exact callWith_lim h
  | callq f args => exact callWith_lim h
  | callv x args =>
    simp only [ev] at h ⊢
    split at h
    · exact callWith_lim h
    · cases h
  | _ => exact ⟨0, fun n _ => h⟩

theorem op_lim {st : St} {o : IOp} {st' : St} (h : execOp1 (limF tb) st o = some st') : ∃ N, ∀ n, N ≤ n → execOp1 (callN tb n) st o = some st' := by
  unfold execOp1 at h ⊢
  have run : ∀ {st'' : St}, (match ev (limF tb) st o.k with
      | some (v, st') => match o.dst with
        | some d => some { st' with T := tput st'.T d v }
        | none => some st'
      | none => none) = some st'' → ∃ N, ∀ n, N ≤ n → (match ev (callN tb n) st o.k with
      | some (v, st') => match o.dst with
        | some d => some { st' with T := tput st'.T d v }
        | none => some st'
      | none => none) = some st'' := by
    intro st'' h
    cases hl : ev (limF tb) st o.k with
    | none => simp [hl] at h
    | some p =>
      obtain ⟨v, s⟩ := p
      obtain ⟨N, hN⟩ := ev_limN hl
      rw [hl] at h
      exact ⟨N, fun n hn => by rw [hN n hn]; exact h⟩
  split at h
  · exact run h
  · split at h
    · split at h
      · rename_i hc
        obtain ⟨N, hN⟩ := run h
        refine ⟨N, fun n hn => ?_⟩
        simp only [hc, if_true]
        exact hN n hn
      · rename_i hc
        exact ⟨0, fun n _ => by simp only [hc, if_false]; exact h⟩
    · exact ⟨0, fun n _ => h⟩
    · cases h

theorem ops_lim : ∀ {ops : List IOp} {st st' : St}, execOps (limF tb) st ops = some st' → ∃ N, ∀ n, N ≤ n → execOps (callN tb n) st ops = some st'
  | [], st, st', h => ⟨0, fun _ _ => h⟩
  | o :: r, st, st', h => by
    simp only [execOps] at h ⊢
    split at h
    · rename_i st1 h1
      obtain ⟨N, hN⟩ := op_lim h1
      obtain ⟨N', hN'⟩ := ops_lim h
      exact ⟨max N N', fun n hn => by simp only [hN n (by omega), hN' n (by omega)]⟩
    · cases h

theorem okRun_lim : ∀ {ops : List IOp} {st st' : St}, execOps (limF tb) st ops = some st' → okRun (limF tb) st ops → ∃ N, ∀ n, N ≤ n → okRun (callN tb n) st ops
  | [], _, _, _, _ => ⟨0, fun _ _ => trivial⟩
  | o :: r, st, st', h, hk => by
    simp only [execOps] at h
    split at h
    rotate_left
    · cases h
    rename_i st1 h1
    obtain ⟨k1, k2⟩ := hk st1 h1
    obtain ⟨N, hN⟩ := op_lim h1
    obtain ⟨N', hN'⟩ := okRun_lim h k2
    refine ⟨max N N', fun n hn st2 h2 => ?_⟩
    rw [hN n (by omega)] at h2
    cases h2
    exact ⟨k1, hN' n (by omega)⟩

theorem WO_sound {ops : List IOp} {st : St} {Q : St → Prop} (h : WO tb ops st Q) : ∃ st', Q st' ∧ (∃ N, ∀ n, N ≤ n → execOps (callN tb n) st ops = some st') ∧ ∀ Q' : St → Prop, Q' st' → WO tb ops st Q' := by
  obtain ⟨st', h1, h2⟩ := h
  exact ⟨st', h2, ops_lim h1, fun Q' hQ' => ⟨st', h1, hQ'⟩⟩

/-- What the code comes to. -/
def Runs (tb : Tbl) (c : IC) (st : St) (ex : Ex) (st' : St) : Prop := ∃ N, ∀ n, N ≤ n → ∀ m, N ≤ m → exec (callN tb n) m c st = some (ex, st')

theorem wp_sound : ∀ {c : IC} {st : St} {Q : Ex → St → Prop}, wp tb c st Q → ∃ ex st', Q ex st' ∧ Runs tb c st ex st' ∧ ∀ Q' : Ex → St → Prop, Q' ex st' → wp tb c st Q'
  | .skip, st, Q, h => ⟨.normal, st, h, ⟨0, fun _ _ _ _ => rfl⟩, fun _ h => h⟩
  | .exit id, st, Q, h => ⟨.exit id, st, h, ⟨0, fun _ _ _ _ => rfl⟩, fun _ h => h⟩
  | .ret, st, Q, h => ⟨.ret, st, h, ⟨0, fun _ _ _ _ => rfl⟩, fun _ h => h⟩
  | .reg ops live alts, st, Q, h => by
    simp only [wp] at h
    obtain ⟨st1, ⟨h1, h2⟩, ⟨N, hN⟩, h3⟩ := WO_sound h
    have halt : ∃ N, ∀ n, N ≤ n → ∀ p ∈ alts, ∃ st2, execOps (callN tb n) st (inOrder ops p) = some st2 ∧ st2.cut live = st1.cut live := by
      clear h h3
      induction alts with
      | nil => exact ⟨0, fun _ _ p hp => by cases hp⟩
      | cons p ps ih =>
        obtain ⟨N1, hN1⟩ := ih (fun q hq => h1 q (by simp [hq]))
        obtain ⟨st2, q1, ⟨N2, hN2⟩, -⟩ := WO_sound (h1 p (by simp))
        refine ⟨max N1 N2, fun n hn q hq => ?_⟩
        rcases List.mem_cons.1 hq with rfl | hq
        · exact ⟨st2, hN2 n (by omega), q1⟩
        · exact hN1 n (by omega) q hq
    obtain ⟨N', hN'⟩ := halt
    refine ⟨.normal, st1.cut live, h2, ⟨max N N', fun n hn m hm => ?_⟩, fun Q' hQ' => ?_⟩
    · simp only [exec, execReg, hN n (by omega)]
      rw [if_pos (hN' n (by omega))]
    · simp only [wp]; exact h3 _ ⟨h1, hQ'⟩
  | .regd ops ord live alts, st, Q, h => by
    simp only [wp] at h
    obtain ⟨hn, hok, st1, h0, h1, h2⟩ := h
    obtain ⟨N, hN⟩ := ops_lim h0
    obtain ⟨N', hN'⟩ := okRun_lim h0 hok
    have halt : ∃ N, ∀ n, N ≤ n → ∀ p ∈ alts, okRun (callN tb n) st (inOrder ops p) ∧ ∃ st2, execOps (callN tb n) st (inOrder ops p) = some st2 ∧ st2.cut live = st1.cut live := by
      clear h2
      induction alts with
      | nil => exact ⟨0, fun _ _ p hp => by cases hp⟩
      | cons p ps ih =>
        obtain ⟨N1, hN1⟩ := ih (fun q hq => h1 q (by simp [hq]))
        obtain ⟨g1, st2, g2, g3⟩ := h1 p (by simp)
        obtain ⟨N2, hN2⟩ := ops_lim g2
        obtain ⟨N3, hN3⟩ := okRun_lim g2 g1
        refine ⟨max N1 (max N2 N3), fun n hn q hq => ?_⟩
        rcases List.mem_cons.1 hq with rfl | hq
        · exact ⟨hN3 n (by omega), st2, hN2 n (by omega), g3⟩
        · exact hN1 n (by omega) q hq
    obtain ⟨N2, hN2⟩ := halt
    refine ⟨.normal, st1.cut live, h2, ⟨max N (max N' N2), fun n hn' m hm => ?_⟩, fun Q' hQ' => ?_⟩
    · simp only [exec, execRegd, hN n (by omega)]
      rw [if_pos ⟨hn, hN' n (by omega), hN2 n (by omega)⟩]
    · simp only [wp]; exact ⟨hn, hok, st1, h0, h1, hQ'⟩
  | .seq a b, st, Q, h => by
    simp only [wp] at h
    obtain ⟨ex, st1, h1, ⟨N, hN⟩, h2⟩ := wp_sound h
    cases ex with
    | normal =>
      obtain ⟨ex2, st2, q1, ⟨N2, hN2⟩, q2⟩ := wp_sound h1
      refine ⟨ex2, st2, q1, ⟨max N N2, fun n hn m hm => ?_⟩, fun Q' hQ' => ?_⟩
      · simp only [exec, hN n (by omega) m (by omega), hN2 n (by omega) m (by omega)]
      · simp only [wp]; exact h2 _ (q2 _ hQ')
    | exit id =>
      refine ⟨.exit id, st1, h1, ⟨N, fun n hn m hm => ?_⟩, fun Q' hQ' => ?_⟩
      · simp only [exec, hN n hn m hm]
      · simp only [wp]; exact h2 _ hQ'
    | ret =>
      refine ⟨.ret, st1, h1, ⟨N, fun n hn m hm => ?_⟩, fun Q' hQ' => ?_⟩
      · simp only [exec, hN n hn m hm]
      · simp only [wp]; exact h2 _ hQ'
  | .cond c a b, st, Q, h => by
    simp only [wp] at h
    split at h
    rotate_left
    · exact h.elim
    rename_i t ht
    cases t with
    | true =>
      simp only [if_true] at h
      obtain ⟨ex, st1, h1, ⟨N, hN⟩, h2⟩ := wp_sound h
      refine ⟨ex, st1, h1, ⟨N, fun n hn m hm => ?_⟩, fun Q' hQ' => ?_⟩
      · simp only [exec, ht, if_true, hN n hn m hm]
      · simp only [wp, ht, if_true]; exact h2 _ hQ'
    | false =>
      simp only [Bool.false_eq_true, if_false] at h
      obtain ⟨ex, st1, h1, ⟨N, hN⟩, h2⟩ := wp_sound h
      refine ⟨ex, st1, h1, ⟨N, fun n hn m hm => ?_⟩, fun Q' hQ' => ?_⟩
      · simp only [exec, ht, Bool.false_eq_true, if_false, hN n hn m hm]
      · simp only [wp, ht, Bool.false_eq_true, if_false]; exact h2 _ hQ'
  | .block id b, st, Q, h => by
    simp only [wp] at h
    obtain ⟨ex, st1, h1, ⟨N, hN⟩, h2⟩ := wp_sound h
    cases ex with
    | normal =>
      refine ⟨.normal, st1, h1, ⟨N, fun n hn m hm => ?_⟩, fun Q' hQ' => ?_⟩
      · simp only [exec, hN n hn m hm]
      · simp only [wp]; exact h2 _ hQ'
    | ret =>
      refine ⟨.ret, st1, h1, ⟨N, fun n hn m hm => ?_⟩, fun Q' hQ' => ?_⟩
      · simp only [exec, hN n hn m hm]
      · simp only [wp]; exact h2 _ hQ'
    | exit i =>
      simp only at h1
      by_cases hi : i = id
      · rw [if_pos hi] at h1
        refine ⟨.normal, st1, h1, ⟨N, fun n hn m hm => ?_⟩, fun Q' hQ' => ?_⟩
        · simp only [exec, hN n hn m hm, hi, if_true]
        · simp only [wp]; exact h2 _ (by simp only [hi, if_true]; exact hQ')
      · rw [if_neg hi] at h1
        refine ⟨.exit i, st1, h1, ⟨N, fun n hn m hm => ?_⟩, fun Q' hQ' => ?_⟩
        · simp only [exec, hN n hn m hm, hi, if_false]
        · simp only [wp]; exact h2 _ (by simp only [hi, if_false]; exact hQ')
  | .loop b, st, Q, h => by
    simp only [wp] at h
    obtain ⟨k, h⟩ := h
    have key : ∀ (k : Nat) (st : St), loopN (wp tb b) Q k st → ∃ ex st', Q ex st' ∧ (∃ N, ∀ n, N ≤ n → ∀ m, N ≤ m → ∀ j, N ≤ j → iter (exec (callN tb n) m b) j st = some (ex, st')) ∧ ∀ Q' : Ex → St → Prop, Q' ex st' → loopN (wp tb b) Q' k st := by
      intro k
      induction k with
      | zero => intro st h; exact h.elim
      | succ k ih =>
        intro st h
        simp only [loopN] at h
        obtain ⟨ex, st1, h1, ⟨N, hN⟩, h2⟩ := wp_sound h
        cases ex with
        | normal =>
          obtain ⟨ex2, st2, q1, ⟨N2, hN2⟩, q2⟩ := ih st1 h1
          refine ⟨ex2, st2, q1, ⟨max N N2 + 1, fun n hn m hm j hj => ?_⟩, fun Q' hQ' => ?_⟩
          · obtain ⟨j', rfl⟩ : ∃ j', j = j' + 1 := ⟨j - 1, by omega⟩
            simp only [iter, hN n (by omega) m (by omega), hN2 n (by omega) m (by omega) j' (by omega)]
          · simp only [loopN]; exact h2 _ (q2 _ hQ')
        | exit i =>
          refine ⟨.exit i, st1, h1, ⟨N + 1, fun n hn m hm j hj => ?_⟩, fun Q' hQ' => ?_⟩
          · obtain ⟨j', rfl⟩ : ∃ j', j = j' + 1 := ⟨j - 1, by omega⟩
            simp only [iter, hN n (by omega) m (by omega)]
          · simp only [loopN]; exact h2 _ hQ'
        | ret =>
          refine ⟨.ret, st1, h1, ⟨N + 1, fun n hn m hm j hj => ?_⟩, fun Q' hQ' => ?_⟩
          · obtain ⟨j', rfl⟩ : ∃ j', j = j' + 1 := ⟨j - 1, by omega⟩
            simp only [iter, hN n (by omega) m (by omega)]
          · simp only [loopN]; exact h2 _ hQ'
    obtain ⟨ex, st', q1, ⟨N, hN⟩, q2⟩ := key k st h
    exact ⟨ex, st', q1, ⟨N, fun n hn m hm => by simp only [exec]; exact hN n hn m hm m hm⟩, fun Q' hQ' => by simp only [wp]; exact ⟨k, q2 Q' hQ'⟩⟩
  | .nilc ops x t live y, st, Q, h => by
    simp only [wp] at h
    obtain ⟨st1, h1, ⟨N, hN⟩, h3⟩ := WO_sound h
    unfold nilW at h1
    split at h1
    · rename_i he
      obtain ⟨ex, st2, q1, ⟨N2, hN2⟩, q2⟩ := wp_sound h1
      refine ⟨ex, st2, q1, ⟨max N N2, fun n hn m hm => ?_⟩, fun Q' hQ' => ?_⟩
      · simp only [exec, nilStep, hN n (by omega), he, hN2 n (by omega) m (by omega)]
      · simp only [wp]; exact h3 _ (by unfold nilW; rw [he]; exact q2 _ hQ')
    · rename_i he
      obtain ⟨ex, st', h1, h2, hQ⟩ := h1
      obtain ⟨_, _, ⟨rfl, rfl⟩, ⟨N1, hN1⟩, q1⟩ := wp_sound h1
      obtain ⟨_, _, ⟨rfl, rfl⟩, ⟨N2, hN2⟩, q2⟩ := wp_sound h2
      refine ⟨_, _, hQ, ⟨max N (max N1 N2), fun n hn m hm => ?_⟩, fun Q' hQ' => ?_⟩
      · simp only [exec, nilStep, hN n (by omega), he, hN1 n (by omega) m (by omega), hN2 n (by omega) m (by omega), if_true]
      · simp only [wp]; exact h3 _ (by unfold nilW; rw [he]; exact ⟨_, _, h1, h2, hQ'⟩)
    · exact h1.elim
  | .nilc2 ops x t live y1 y2, st, Q, h => by
    simp only [wp] at h
    obtain ⟨st1, h1, ⟨N, hN⟩, h3⟩ := WO_sound h
    have two : ∀ {st : St} {Q : Ex → St → Prop}, (wp tb y1 st fun ex st' => match ex with | .normal => wp tb y2 st' Q | e => Q e st') → ∃ ex st', Q ex st' ∧ (∃ N, ∀ n, N ≤ n → ∀ m, N ≤ m → seqX (exec (callN tb n) m y1) (exec (callN tb n) m y2) st = some (ex, st')) ∧ ∀ Q' : Ex → St → Prop, Q' ex st' → (wp tb y1 st fun ex st' => match ex with | .normal => wp tb y2 st' Q' | e => Q' e st') := by
      intro st Q h
      obtain ⟨ex, st1, h1, ⟨N, hN⟩, h2⟩ := wp_sound h
      cases ex with
      | normal =>
        obtain ⟨ex2, st2, q1, ⟨N2, hN2⟩, q2⟩ := wp_sound h1
        exact ⟨ex2, st2, q1, ⟨max N N2, fun n hn m hm => by simp only [seqX, hN n (by omega) m (by omega), hN2 n (by omega) m (by omega)]⟩, fun Q' hQ' => h2 _ (q2 _ hQ')⟩
      | exit id => exact ⟨.exit id, st1, h1, ⟨N, fun n hn m hm => by simp only [seqX, hN n hn m hm]⟩, fun Q' hQ' => h2 _ hQ'⟩
      | ret => exact ⟨.ret, st1, h1, ⟨N, fun n hn m hm => by simp only [seqX, hN n hn m hm]⟩, fun Q' hQ' => h2 _ hQ'⟩
    unfold nilW at h1
    split at h1
    · rename_i he
      obtain ⟨ex, st2, q1, ⟨N2, hN2⟩, q2⟩ := two h1
      refine ⟨ex, st2, q1, ⟨max N N2, fun n hn m hm => ?_⟩, fun Q' hQ' => ?_⟩
      · simp only [exec, nilStep, hN n (by omega), he]; exact hN2 n (by omega) m (by omega)
      · simp only [wp]; exact h3 _ (by unfold nilW; rw [he]; exact q2 _ hQ')
    · rename_i he
      obtain ⟨ex, st', h1, h2, hQ⟩ := h1
      obtain ⟨_, _, ⟨rfl, rfl⟩, ⟨N1, hN1⟩, q1⟩ := two h1
      obtain ⟨_, _, ⟨rfl, rfl⟩, ⟨N2, hN2⟩, q2⟩ := two h2
      refine ⟨_, _, hQ, ⟨max N (max N1 N2), fun n hn m hm => ?_⟩, fun Q' hQ' => ?_⟩
      · simp only [exec, nilStep, hN n (by omega), he]
        rw [hN1 n (by omega) m (by omega), hN2 n (by omega) m (by omega)]
        simp
      · simp only [wp]; exact h3 _ (by unfold nilW; rw [he]; exact ⟨_, _, h1, h2, hQ'⟩)
    · exact h1.elim

/-- A round, and the rest. -/
theorem wp_loop {b : IC} {st : St} {Q : Ex → St → Prop} (h : wp tb b st fun ex st' => match ex with
    | .normal => wp tb (.loop b) st' Q
    | e => Q e st') : wp tb (.loop b) st Q := by
  obtain ⟨ex, st', h1, -, h2⟩ := wp_sound h
  cases ex with
  | normal =>
    simp only [wp] at h1
    obtain ⟨k, hk⟩ := h1
    exact ⟨k + 1, h2 _ hk⟩
  | exit i => exact ⟨1, h2 _ h1⟩
  | ret => exact ⟨1, h2 _ h1⟩

/-- The end of a call. -/
def finish (f : IFun) (lent : List Nat) (st : St) : Option Ret := match st.retvs f.res with
  | some (vs, st) => match st.backs lent with
    | some (back, st) => st.leave (packRes vs) back
    | none => none
  | none => none

/-- A call, by its body. -/
theorem call_of_wp {f : Lab} {fn : IFun} (hf : tb f = some fn) {lent : List Nat} {args : List IV} {M : List Boxes} {r : Ret} (hl : lent.all fn.keep.contains = true)
    (h : wp tb fn.body { T := args.zipIdx.map fun (v, i) => (i, v), loc := [], M := M } fun ex st => (ex = .normal ∨ ex = .ret) ∧ finish fn lent st = some r) : Ev tb f lent args M r := by
  obtain ⟨ex, st', ⟨h1, h2⟩, ⟨N, hN⟩, -⟩ := wp_sound h
  refine ⟨N + 1, fun n hn => ?_⟩
  obtain ⟨n', rfl⟩ : ∃ n', n = n' + 1 := ⟨n - 1, by omega⟩
  simp only [callN, hf, runFun, hl, Bool.not_true, Bool.false_eq_true, if_false, hN n' (by omega) n' (by omega)]
  unfold finish at h2
  rcases h1 with rfl | rfl <;> exact h2

end
end Go.Idl

