/- The walk of digits: numbers of one digit each as a text. Conditions: as the theorems say. -/
import Derived.Test.YtbbennmmjlgmoaaDoorShelf
import Derived.Test.YtbbennmmjlgmoaaDoorChecked
import Derived.WalkKit
import Derived.BigCall
import Derived.BigGuard
import Derived.LoopN
namespace Go.Proofs
open Go.Shelf Go.RowKit

def Tryd.dg (x : Nat) : UInt8 := UInt8.ofNat (48 + x)

theorem Tryd.Itoa_one (i : Nat) (hi : i < 10) (w : World) : Calls Tryd.prog 39 #[.int .i64 i] w fun e w' => e = .returned (.string ⟨#[Tryd.dg i]⟩) ∧ w' = w := by
  have h := Any.strconv_Itoa_small (ρ := Tryd.lays171_ren) Tryd.lays171 i (by omega) w
  have hd : Lib.decDigits i = [Tryd.dg i] := by rw [Lib.decDigits, dif_pos hi]; rfl
  rw [hd] at h
  exact h
theorem Tryd.WriteS (B b : Nat) (bs : List Value) (s : ByteArray) (w : World) (h : Lib.IsBuilder 61 5 B b bs w) (hlen : bs.length + s.size ≤ 140737488355328) (hBw : B ≤ w.heap.size) :
    Calls Tryd.prog 38 #[.pointer (some ⟨b, 0, none⟩), .string s] w fun e w' => e = .returned (.tuple #[.int .i64 s.size, .nilIface]) ∧ (Lib.BuilderAt 61 5 B b (.pointer (some ⟨b, 0, none⟩)) (bs ++ Lib.strCells s) w' ∧ Below B w w') :=
  Any.Builder_WriteString (ρ := Tryd.lays156_ren) { Tryd.lays156 with } Tryd.Builder_Extra_156 B b bs s w h hlen hBw
theorem Tryd.StringS (B b : Nat) (l : List UInt8) (w : World) (h : Lib.IsBuilder 61 5 B b (Lib.byteCells l) w) (hBw : B ≤ w.heap.size) :
    Calls Tryd.prog 40 #[.pointer (some ⟨b, 0, none⟩)] w fun e w' => e = .returned (.string ⟨l.toArray⟩) ∧ Below B w w' :=
  Any.Builder_String_any (ρ := Tryd.lays156_ren) { Tryd.lays156 with } Tryd.Builder_Extra_156 B b l w h hBw

set_option maxHeartbeats 4000000 in
set_option maxRecDepth 1000000 in
theorem Tryd.digits_row (bk o c : Nat) (xs : List Nat) (w : World) (hcells : ∀ (j : Nat) x, xs[j]? = some x → w.cell? ⟨bk, o + j, none⟩ = some (.int .i64 x)) (hx : ∀ x ∈ xs, x < 10) (hbk : bk < w.heap.size) (hN : xs.length ≤ 1000) :
    Calls Tryd.prog 19 #[.slice (some ⟨bk, o, none⟩) xs.length c] w fun e w' => e = .returned (.string ⟨(xs.map Tryd.dg).toArray⟩) ∧ Below w.heap.size w w' := by
  have HC := Any.hidJ hcells
  have HX := Any.hidJ hx
  clear hcells hx
  go_enter Tryd.func19, Tryd.ntmps19
  go_wp2_with fail
  go_loopw [8] (fun i wr => ∃ k : Nat, k ≤ xs.length ∧ i = .int .i64 k ∧ Hid (Lib.IsBuilder 61 5 w.heap.size w.heap.size (Lib.byteCells ((xs.take k).map Tryd.dg)) wr) ∧ Hid (Below w.heap.size w wr)) (fun i _ => xs.length - (intOf i).toNat)
  case atStart => exact ⟨0, Nat.zero_le _, rfl, Any.hidJ (Lib.fresh_isBuilder 61 5 w), Any.hidJ ((Below.refl w.heap.size w).alloc (Nat.le_refl _) _)⟩
  case round =>
    obtain ⟨k, hk, rfl, HB, HW⟩ := hrel
    by_cases hkn : k < xs.length
    · obtain ⟨x, hx⟩ : ∃ x, xs[k]? = some x := ⟨xs[k], List.getElem?_eq_getElem hkn⟩
      have hc : wr.cell? ⟨bk, o + k, none⟩ = some (.int .i64 x) := by
        rw [HW.out.cell (p := ⟨bk, o + k, none⟩) hbk]
        exact HC.out k x hx
      have hx10 := HX.out x (List.mem_of_getElem? hx)
      have hBw : w.heap.size ≤ wr.heap.size := HW.out.size
      have hnext : Lib.byteCells ((xs.take k).map Tryd.dg) ++ Lib.strCells ⟨#[Tryd.dg x]⟩ = Lib.byteCells ((xs.take (k + 1)).map Tryd.dg) := by
        have hxk : xs[k] = x := by rw [List.getElem?_eq_getElem hkn] at hx; exact Option.some.inj hx
        rw [List.take_succ_eq_append_getElem hkn, hxk, List.map_append, Lib.byteCells_append, Lib.strCells_eq]; rfl
      have Hn := Any.hidJ hnext
      clear hnext hx
      go_wp2_with fail
      refine (Tryd.Itoa_one x hx10 wr).mono ?_
      rintro e w2 ⟨rfl, rfl⟩
      go_wp2_with fail
      refine (Tryd.WriteS w.heap.size w.heap.size _ ⟨#[Tryd.dg x]⟩ _ HB.out (by rw [Lib.byteCells_length, List.length_map, List.length_take]; show _ + 1 ≤ _; omega) hBw).mono ?_
      rintro e w3 ⟨rfl, h3, hb3⟩
      rw [Hn.out] at h3
      have H3 := Any.hidJ (Or.inr h3 : Lib.IsBuilder 61 5 w.heap.size w.heap.size _ w3)
      have Hb3 := Any.hidJ (HW.out.trans hb3)
      clear h3 hb3
      go_wp2
      exact ⟨⟨k + 1, by omega, by go_num, H3, Hb3⟩, by simp [intOf]; omega⟩
    · have hke : k = xs.length := by omega
      subst hke
      have hB' := HB.out
      rw [List.take_length] at hB'
      have hBw : w.heap.size ≤ wr.heap.size := HW.out.size
      go_wp2_with fail
      refine (Tryd.StringS w.heap.size w.heap.size _ wr hB' hBw).mono ?_
      rintro e w5 ⟨rfl, hb5⟩
      have Hb5 := Any.hidJ (HW.out.trans hb5)
      clear hb5 hB'
      go_wp2
      go_ret
      exact ⟨rfl, Hb5.out⟩

set_option maxHeartbeats 4000000 in
set_option maxRecDepth 1000000 in
theorem Tryd.digits_none (a : Option Addr) (c : Nat) (w : World) :
    Calls Tryd.prog 19 #[.slice a 0 c] w fun e w' => e = .returned (.string ⟨#[]⟩) ∧ Below w.heap.size w w' := by
  go_enter Tryd.func19, Tryd.ntmps19
  go_wp2_with fail
  go_loopw [8] (fun i wr => i = .int .i64 0 ∧ Hid (Lib.IsBuilder 61 5 w.heap.size w.heap.size (Lib.byteCells []) wr) ∧ Hid (Below w.heap.size w wr)) (fun i _ => 0 - (intOf i).toNat)
  case atStart => exact ⟨rfl, Any.hidJ (Lib.fresh_isBuilder 61 5 w), Any.hidJ ((Below.refl w.heap.size w).alloc (Nat.le_refl _) _)⟩
  case round =>
    obtain ⟨rfl, HB, HW⟩ := hrel
    have hB' := HB.out
    have hBw : w.heap.size ≤ wr.heap.size := HW.out.size
    go_wp2_with fail
    refine (Tryd.StringS w.heap.size w.heap.size _ wr hB' hBw).mono ?_
    rintro e w5 ⟨rfl, hb5⟩
    have Hb5 := Any.hidJ (HW.out.trans hb5)
    clear hb5 hB'
    go_wp2
    go_ret
    exact ⟨rfl, Hb5.out⟩
end Go.Proofs
