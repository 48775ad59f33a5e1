/- The walk of slices.Backward. Conditions: as the theorems say. -/
import Derived.Test.YtglgfefngeknhaaGreatDoorChecked
import Derived.RangeFuncSeq
import Derived.WalkKit
import Derived.TacticsInMore
import Derived.RegionIn
import Derived.LoopNIn
import Derived.LoopIn
import Derived.BigCall
import Derived.BigGuard
namespace Go.Proofs
open Go.RowKit

set_option maxHeartbeats 4000000 in
set_option maxRecDepth 1000000 in
theorem Tryz.bk_iter (m l B : Nat) (ad : Option Addr) (cap : Nat) (vs : List Int) (J : Nat → World → Prop) (Jx : World → Prop) (hlen : vs.length < 2 ^ 40)
    (hr : ∀ k W, J k W → W.cell? ⟨B, 0, none⟩ = some (.slice ad vs.length cap) ∧ ∀ (i : Nat) (v : Int), vs[i]? = some v → ∃ b o, ad = some ⟨b, o, none⟩ ∧ W.cell? ⟨b, o + i, none⟩ = some (.int .i64 v))
    (hY : ∀ m (k : Nat) (v : Int) W, J k W → vs.reverse[k]? = some v → YieldAt Fence.wide m Tryz.prog l #[.int .i64 ((vs.length - 1 - k : Nat) : Int), .int .i64 v] W fun e W' => (e = .returned (.bool true) ∧ J (k + 1) W') ∨ (e = .returned (.bool false) ∧ Jx W'))
    (W : World) (h0 : J 0 W) :
    CallsIn Fence.wide m Tryz.prog 151 #[.func (.yield l) #[] #[], .pointer (some ⟨B, 0, none⟩)] W fun e W' => (∃ v, e = .returned v) ∧ (J vs.length W' ∨ Jx W') := by
  have hm := (hr 0 W h0).1
  have hro : Fence.wide.round = none := rfl
  refine callsIn_of_wp Tryz.func151 rfl trivial ?_ hro
  simp only [Tryz.ntmps151, List.size_toArray, List.length_cons, List.length_nil, Nat.reduceAdd, Nat.reduceSub, Array.replicate_succ, Array.replicate_zero, List.push_toArray, List.append_toArray, List.nil_append, List.cons_append]
  gi_wp2
  gi_loopw [3] (fun i wr => ∃ r : Nat, r ≤ vs.length ∧ i = .int .i64 ((r : Int) - 1) ∧ J (vs.length - r) wr) (fun i _ => ((intOf i) + 1).toNat)
  case atStart => exact ⟨vs.length, Nat.le_refl _, rfl, by simpa using h0⟩
  case round =>
    obtain ⟨r, hr1, rfl, hJ⟩ := hrel
    cases r with
    | zero =>
      gi_wp2
      go_end0
      exact ⟨⟨_, rfl⟩, .inl (by simpa using hJ)⟩
    | succ j =>
      obtain ⟨v, hv⟩ : ∃ v, vs[j]? = some v := ⟨vs[j], List.getElem?_eq_getElem (by omega)⟩
      obtain ⟨hm1, hc1⟩ := hr _ _ hJ
      obtain ⟨b, o, rfl, hc⟩ := hc1 j v hv
      have hrev : vs.reverse[vs.length - (j + 1)]? = some v := by
        rw [List.getElem?_reverse (by omega)]
        rw [show vs.length - 1 - (vs.length - (j + 1)) = j by omega]; exact hv
      obtain ⟨fn, tmps, assign, body, hy, hR⟩ := hY (m - 1) _ v _ hJ hrev
      rw [show vs.length - 1 - (vs.length - (j + 1)) = j by omega] at hy
      have hj : ((j + 1 : Nat) : Int) - 1 = (j : Int) := by omega
      rw [hj]
      gi_wp2
      refine ⟨fun h => (by cases h), hR.mono ?_⟩
      have hk1 : vs.length - (j + 1) + 1 = vs.length - j := by omega
      rw [hk1]
      rintro e W3 (⟨rfl, hJ3⟩ | ⟨rfl, hJx3⟩)
      · gi_wp2
        go_roundw
        case rel => exact ⟨j, by omega, rfl, hJ3⟩
        case measure => simp [intOf]
      · gi_wp2
        refine bodyPost_ret (results_none rfl _ _ _) rfl ?_
        exact ⟨⟨_, rfl⟩, .inr hJx3⟩

theorem Tryz.bk_call (ad : Option Addr) (len cap : Nat) (w : World) : Calls Tryz.prog 115 #[.slice ad len cap] w fun e w' => e = .returned (.func (.func 151) #[] #[.pointer (some ⟨w.heap.size, 0, none⟩)]) ∧ w' = w.alloc (.cells #[.slice ad len cap] 35) := by
  refine (callsIn_wide (n := 0)).1 ?_
  have hro : Fence.wide.round = none := rfl
  refine callsIn_of_wp Tryz.func115 rfl trivial ?_ hro
  simp only [Tryz.ntmps115, List.size_toArray, List.length_cons, List.length_nil, Nat.reduceAdd, Nat.reduceSub, Array.replicate_succ, Array.replicate_zero, List.push_toArray, List.append_toArray, List.nil_append, List.cons_append]
  gi_wp2
  go_ret
  exact ⟨rfl, rfl⟩
#print axioms Tryz.bk_iter
#print axioms Tryz.bk_call
end Go.Proofs
