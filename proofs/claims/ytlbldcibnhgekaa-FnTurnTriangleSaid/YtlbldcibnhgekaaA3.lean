/- Part 3 of a proof by an ideal interpreter of the code: its definitions and lemmas. Conditions: none. -/
import Derived.Test.YtlbldcibnhgekaaA2
set_option linter.all false
set_option linter.unusedVariables false
set_option linter.unusedSimpArgs false
/- Rules for the walk. Conditions: none (lemmas). -/
namespace Go.Idl
open Go

abbrev I (n : Int) : IV := .sc (.int .i64 n)
abbrev Bo (b : Bool) : IV := .sc (.bool b)
def ints (xs : List Int) : List (List IV) := xs.map fun n => [I n]

section
variable {tb : Tbl} {st : St} {Q Q' : Ex → St → Prop}

theorem wpi_skip : wp tb .skip st Q = Q .normal st := rfl
theorem wp_reg {ops live st1 st2} (h : execOps (limF tb) st ops = some st1) (hc : st1.cut live = st2) (hq : Q .normal st2) : wp tb (.reg ops live []) st Q := by
  subst hc
  exact ⟨st1, h, by simp, hq⟩
/-- A region, and then. -/
theorem wp_rs {ops live b st1 st2} (h : execOps (limF tb) st ops = some st1) (hc : st1.cut live = st2) (hb : wp tb b st2 Q) : wp tb (.seq (.reg ops live []) b) st Q :=
  by simp only [wp]; exact wp_reg (Q := fun ex st' => match ex with | .normal => wp tb b st' Q | e => Q e st') h hc hb
/-- A region that may be run in other orders. -/
theorem wp_ra {ops live alts b st1 st2} (h : execOps (limF tb) st ops = some st1) (hc : st1.cut live = st2) (ha : ∀ p ∈ alts, ∃ st3, execOps (limF tb) st (inOrder ops p) = some st3 ∧ st3.cut live = st2) (hb : wp tb b st2 Q) : wp tb (.seq (.reg ops live alts) b) st Q := by
  subst hc
  simp only [wp]
  exact ⟨st1, h, ha, hb⟩
theorem wp_rega {ops live alts st1 st2} (h : execOps (limF tb) st ops = some st1) (hc : st1.cut live = st2) (ha : ∀ p ∈ alts, ∃ st3, execOps (limF tb) st (inOrder ops p) = some st3 ∧ st3.cut live = st2) (hq : Q .normal st2) : wp tb (.reg ops live alts) st Q := by
  subst hc
  exact ⟨st1, h, ha, hq⟩
theorem wp_as {a b c} (h : wp tb (.seq a (.seq b c)) st Q) : wp tb (.seq (.seq a b) c) st Q := by
  simp only [wp] at h ⊢
  obtain ⟨ex, st1, h1, -, h2⟩ := wp_sound h
  refine h2 _ ?_
  cases ex <;> exact h1
theorem wpi_seq {a b} : wp tb (.seq a b) st Q = wp tb a st fun ex st' => match ex with
    | .normal => wp tb b st' Q
    | e => Q e st' := rfl
theorem wpi_cond {c a b} : wp tb (.cond c a b) st Q = match rd st.T c with
    | .sc (.bool t) => if t = true then wp tb a st Q else wp tb b st Q
    | _ => False := rfl
theorem wpi_block {id b} : wp tb (.block id b) st Q = wp tb b st fun ex st' => match ex with
    | .exit i => if i = id then Q .normal st' else Q (.exit i) st'
    | e => Q e st' := rfl
theorem wpi_exit {id} : wp tb (.exit id) st Q = Q (.exit id) st := rfl
theorem wpi_ret : wp tb .ret st Q = Q .ret st := rfl
theorem wp_imp {c} (h : wp tb c st Q) (hq : ∀ ex st', Q ex st' → Q' ex st') : wp tb c st Q' := by
  obtain ⟨ex, st', h1, -, h2⟩ := wp_sound h
  exact h2 _ (hq _ _ h1)
end

theorem wrap64 {n : Int} (h : -9223372036854775808 ≤ n) (h' : n < 9223372036854775808) : IntKind.i64.wrap n = n := by
  have e1 : (2 : Int) ^ IntKind.i64.bits = 18446744073709551616 := by decide
  have e2 : (2 : Int) ^ (IntKind.i64.bits - 1) = 9223372036854775808 := by decide
  have e3 : IntKind.i64.signed = true := rfl
  unfold IntKind.wrap
  rw [e1, e2, e3]
  simp only [Bool.true_and, decide_eq_true_eq, ge_iff_le]
  split <;> omega

theorem natOf_nat {k : IntKind} {n : Nat} : natOf (.sc (.int k (n : Int))) = some n := by simp [natOf]

@[simp] theorem ints_get? (xs : List Int) (i : Nat) : (ints xs)[i]? = xs[i]?.map fun n => [IV.sc (.int .i64 n)] := by simp [ints]
@[simp] theorem ints_get (xs : List Int) (i : Nat) (h : i < (ints xs).length) : (ints xs)[i] = [IV.sc (.int .i64 (xs[i]'(by simpa [ints] using h)))] := by simp [ints]


section
variable {tb : Tbl} {st : St} {Q Q' : Ex → St → Prop}
theorem wp_ret' (h : Q .ret st) : wp tb .ret st Q := h
theorem wp_skip' (h : Q .normal st) : wp tb .skip st Q := h
theorem wp_exit' {id} (h : Q (.exit id) st) : wp tb (.exit id) st Q := h
/-- A test, and then. -/
theorem wp_ct {c a b d t} (hc : rd st.T c = .sc (.bool t)) (h1 : t = true → wp tb (.seq a d) st Q) (h2 : t = false → wp tb (.seq b d) st Q) : wp tb (.seq (.cond c a b) d) st Q := by
  simp only [wp, hc] at *
  cases t
  · simpa using h2 rfl
  · simpa using h1 rfl
theorem wp_c {c a b t} (hc : rd st.T c = .sc (.bool t)) (h1 : t = true → wp tb a st Q) (h2 : t = false → wp tb b st Q) : wp tb (.cond c a b) st Q := by
  simp only [wp, hc] at *
  cases t
  · simpa using h2 rfl
  · simpa using h1 rfl
theorem wp_ss {b} (h : wp tb b st Q) : wp tb (.seq .skip b) st Q := h
theorem wp_sr {b} (h : Q .ret st) : wp tb (.seq .ret b) st Q := h
theorem wp_sx {id b} (h : Q (.exit id) st) : wp tb (.seq (.exit id) b) st Q := h
/-- A block, and then: what is behind it is met where it is left. -/
theorem wp_bs {id b c} (h : wp tb b st fun ex st' => match ex with
    | .normal => wp tb c st' Q
    | .exit i => if i = id then wp tb c st' Q else Q (.exit i) st'
    | .ret => Q .ret st') : wp tb (.seq (.block id b) c) st Q := by
  simp only [wp]
  refine wp_imp h fun ex st' hh => ?_
  cases ex with
  | normal => exact hh
  | ret => exact hh
  | exit i =>
    simp only at hh ⊢
    split
    · rename_i hi; rw [if_pos hi] at hh; exact hh
    · rename_i hi; rw [if_neg hi] at hh; exact hh
theorem wp_b {id b} (h : wp tb b st fun ex st' => match ex with
    | .normal => Q .normal st'
    | .exit i => if i = id then Q .normal st' else Q (.exit i) st'
    | .ret => Q .ret st') : wp tb (.block id b) st Q := by
  simp only [wp]
  refine wp_imp h fun ex st' hh => ?_
  cases ex <;> exact hh
/-- Something whose outcome is known, and then. -/
theorem wp_then {a b} {R : Ex → St → Prop} (h : wp tb a st R) (hr : ∀ ex st', R ex st' → match ex with
    | .normal => wp tb b st' Q
    | e => Q e st') : wp tb (.seq a b) st Q := by
  simp only [wp]
  exact wp_imp h hr
/-- One round of a loop in which nothing leaves: and on. -/
theorem wp_round {b} (h : wp tb b st fun ex st' => match ex with
    | .normal => wp tb (.loop b) st' Q
    | e => Q e st') : wp tb (.loop b) st Q := wp_loop h
/-- A slice is compared with nil: both ways come to one state. -/
theorem wp_nil2 {ops x t live y1 y2 st1 b ex st'} (h : execOps (limF tb) st ops = some st1) (he : emptyL (rd st1.T x) = some b) (hf : wp tb (.seq y1 y2) (st1.flag t false live) (fun e s => e = ex ∧ s = st'))
    (ht : b = true → wp tb (.seq y1 y2) (st1.flag t true live) (fun e s => e = ex ∧ s = st')) (hq : Q ex st') : wp tb (.nilc2 ops x t live y1 y2) st Q := by
  simp only [wp] at *
  refine ⟨st1, h, ?_⟩
  unfold nilW
  cases b with
  | false =>
    rw [he]
    obtain ⟨e, s, ⟨rfl, rfl⟩, -, h2⟩ := wp_sound (c := .seq y1 y2) (by simp only [wp]; exact hf)
    have := h2 Q hq
    simpa only [wp] using this
  | true => rw [he]; exact ⟨ex, st', ht rfl, hf, hq⟩
end

theorem frz_ints (xs : List Int) : frzLL (ints xs) = ints xs := by
  induction xs with
  | nil => rfl
  | cons x xs ih => simp only [ints, List.map_cons, frzLL, frzL, frzV] at *; rw [ih]

attribute [simp] execOps execOp1 ev rd tget viewOf binV tput IV.holds tk cv cv1 slen restrict kl kl1 klc rootOut IV.rooted killRt killBy dropSlot St.cut vcells eqCells pack sub natOf_nat bound slcV St.sview St.plc St.rcells IV.cells fol St.loadCells
  emptyL St.flag putI inOrder isSc IV.isSc IV.plain1 IV.plain IV.isOwn

@[simp] theorem ints_len (xs : List Int) : (ints xs).length = xs.length := by simp [ints]
@[simp] theorem ints_nil : ints [] = [] := rfl
@[simp] theorem ints_app (xs ys : List Int) : ints xs ++ ints ys = ints (xs ++ ys) := by simp [ints]
@[simp] theorem ints_one (xs : List Int) (n : Int) : ints xs ++ [[IV.sc (.int .i64 n)]] = ints (xs ++ [n]) := by simp [ints]
@[simp] theorem ints_set (xs : List Int) (i : Nat) (v : Int) : (ints xs).set i [IV.sc (.int .i64 v)] = ints (xs.set i v) := by
  simp [ints, List.map_set]
@[simp] theorem ints_take (xs : List Int) (n : Nat) : (ints xs).take n = ints (xs.take n) := by simp [ints, List.map_take]
@[simp] theorem ints_drop (xs : List Int) (n : Nat) : (ints xs).drop n = ints (xs.drop n) := by simp [ints, List.map_drop]
@[simp] theorem ints_emp (xs : List Int) : (ints xs).isEmpty = xs.isEmpty := by cases xs <;> rfl
@[simp] theorem ints_all1 (xs : List Int) : ((ints xs).all fun x => x.all IV.plain1) = true := by
  induction xs with
  | nil => rfl
  | cons x xs ih => simp only [ints, List.map_cons, List.all_cons] at *; rw [ih]; rfl
@[simp] theorem ints_all2 (xs : List Int) : ((ints xs).all fun x => x.all IV.isData) = true := by
  induction xs with
  | nil => rfl
  | cons x xs ih => simp only [ints, List.map_cons, List.all_cons] at *; rw [ih]; rfl
@[simp] theorem ints_noLst (xs : List Int) : noLstLL (ints xs) = true := by
  induction xs with
  | nil => rfl
  | cons x xs ih => simp only [ints, List.map_cons, noLstLL, noLstL, noLstV] at *; rw [ih]; rfl

@[simp] theorem natOf_succ {k : IntKind} {n : Nat} : natOf (.sc (.int k ((n : Int) + 1))) = some (n + 1) := natOf_nat (n := n + 1)
@[simp] theorem natOf_zero {k : IntKind} : natOf (.sc (.int k 0)) = some 0 := rfl
@[simp] theorem natOf_one {k : IntKind} : natOf (.sc (.int k 1)) = some 1 := rfl
theorem ite_ltN {α} {a b : Nat} {d : Decidable (a < b)} {x y : α} (h : a < b) : @ite α (a < b) d x y = x := if_pos h
theorem ite_leN {α} {a b : Nat} {d : Decidable (a ≤ b)} {x y : α} (h : a ≤ b) : @ite α (a ≤ b) d x y = x := if_pos h
theorem natOf_int {k : IntKind} {n : Int} (h : 0 ≤ n) : natOf (.sc (.int k n)) = some n.toNat := by simp [natOf, h]
theorem dec_lt {a b : Int} {d : Decidable (a < b)} (h : a < b) : @decide (a < b) d = true := decide_eq_true h
theorem dec_nlt {a b : Int} {d : Decidable (a < b)} (h : b ≤ a) : @decide (a < b) d = false := decide_eq_false (by omega)
theorem dec_le {a b : Int} {d : Decidable (a ≤ b)} (h : a ≤ b) : @decide (a ≤ b) d = true := decide_eq_true h
theorem dec_nle {a b : Int} {d : Decidable (a ≤ b)} (h : b < a) : @decide (a ≤ b) d = false := decide_eq_false (by omega)
/-- The state behind a call that has answered. -/
@[simp] theorem limF_ev {tb : Tbl} {f lent args M r} (h : Ev tb f lent args M r) : limF tb f lent args M = some r := ev_lim h

theorem wrapN {n : Nat} (h : n < 9223372036854775808) : IntKind.i64.wrap (n : Int) = (n : Int) := wrap64 (by omega) (by omega)
theorem wrapS {n : Nat} (h : n + 1 < 9223372036854775808) : IntKind.i64.wrap ((n : Int) + 1) = ((n + 1 : Nat) : Int) := by
  rw [wrap64 (by omega) (by omega)]; rfl

attribute [simp] St.fillElems elemsOf St.news St.append IV.wcells lim fillCells IV.okPart tkKill St.storeCells St.callWith St.args St.args1 St.arg1 ldSlot St.args2 St.arg2 St.seen St.seens St.lentBack IV.free IV.free1 lents isLd noLstV noLstL noLstLL frzV frzL frzLL frz_ints pureRun scInt bytesOf IV.isBptr elemsOf
@[simp] theorem getLast_ca {α} (a x : α) (m : List α) : (a :: (m ++ [x])).getLast? = some x := by
  rw [← List.cons_append, List.getLast?_append]; rfl
@[simp] theorem dropLast_ca {α} (a x : α) (m : List α) : (a :: (m ++ [x])).dropLast = a :: m := by
  rw [← List.cons_append, List.dropLast_concat]
@[simp] theorem unary_not (b : Bool) : Op.unary .not (.bool b) = .pure (.bool !b) := rfl
attribute [simp] killBoxes IV.rootB
attribute [simp] finish St.retvs St.retv packRes St.backs St.leave St.absorb St.absorbs St.absorbsK killOf IV.lvl okRet IV.okLvl IV.isData St.setPlc setCellOf fset splice St.box St.setBox

def dstOwns (st : St) : Option Nat → Bool
  | some d => (tget st.T d).holds
  | none => false
/-- A run that looks whether what quiet operations come to owns something. -/
def execOpsQ (cf : CF) : St → List IOp → Option St
  | st, [] => some st
  | st, o :: r => match execOp1 cf st o with
    | some st1 => if (quietN o.k && dstOwns st1 o.dst) = true then none else execOpsQ cf st1 r
    | none => none
theorem execQ_ok {cf : CF} : ∀ {ops : List IOp} {st s : St}, execOpsQ cf st ops = some s → execOps cf st ops = some s ∧ okRun cf st ops
  | [], st, s, h => ⟨h, trivial⟩
  | o :: r, st, s, h => by
    simp only [execOpsQ] at h
    simp only [execOps]
    split at h
    rotate_left
    · cases h
    rename_i st1 h1
    simp only [h1]
    split at h
    · cases h
    rename_i hq
    obtain ⟨q1, q2⟩ := execQ_ok h
    refine ⟨q1, fun st2 h2 => ?_⟩
    rw [h1] at h2
    cases h2
    refine ⟨fun hk d hd => ?_, q2⟩
    simp only [hk, hd, Bool.true_and, Bool.not_eq_true, dstOwns] at hq
    exact hq

section
variable {tb : Tbl} {st : St} {Q : Ex → St → Prop}
theorem wp_rd {ops ord live alts st1 st2} (hn : NHops st ops = true) (h : execOpsQ (limF tb) st (inOrder ops ord) = some st1) (hc : st1.cut live = st2) (ha : ∀ p ∈ alts, ∃ st3, execOpsQ (limF tb) st (inOrder ops p) = some st3 ∧ st3.cut live = st2) (hq : Q .normal st2) : wp tb (.regd ops ord live alts) st Q := by
  subst hc
  obtain ⟨h1, h2⟩ := execQ_ok h
  refine ⟨hn, h2, st1, h1, fun p hp => ?_, hq⟩
  obtain ⟨st3, g1, g2⟩ := ha p hp
  obtain ⟨g3, g4⟩ := execQ_ok g1
  exact ⟨g4, st3, g3, g2⟩
theorem wp_rds {ops ord live alts b st1 st2} (hn : NHops st ops = true) (h : execOpsQ (limF tb) st (inOrder ops ord) = some st1) (hc : st1.cut live = st2) (ha : ∀ p ∈ alts, ∃ st3, execOpsQ (limF tb) st (inOrder ops p) = some st3 ∧ st3.cut live = st2) (hb : wp tb b st2 Q) : wp tb (.seq (.regd ops ord live alts) b) st Q := by
  simp only [wpi_seq]
  exact wp_rd (Q := fun ex st' => match ex with | .normal => wp tb b st' Q | e => Q e st') hn h hc ha hb
theorem wp_rd0 {ops ord live st1 st2} (hn : NHops st ops = true) (h : execOpsQ (limF tb) st (inOrder ops ord) = some st1) (hc : st1.cut live = st2) (hq : Q .normal st2) : wp tb (.regd ops ord live []) st Q := wp_rd hn h hc (fun _ h => nomatch h) hq
theorem wp_rds0 {ops ord live b st1 st2} (hn : NHops st ops = true) (h : execOpsQ (limF tb) st (inOrder ops ord) = some st1) (hc : st1.cut live = st2) (hb : wp tb b st2 Q) : wp tb (.seq (.regd ops ord live []) b) st Q := wp_rds hn h hc (fun _ h => nomatch h) hb
end
attribute [simp] execOpsQ quietK quietN plainK dstOwns

end Go.Idl

