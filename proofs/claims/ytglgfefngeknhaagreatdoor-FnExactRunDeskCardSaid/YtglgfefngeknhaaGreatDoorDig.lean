/- The walk of digits: numbers of one digit each as a text. Conditions: as the theorems say. -/
import Derived.Test.YtglgfefngeknhaaGreatDoorShelf
import Derived.Test.YtglgfefngeknhaaGreatDoorChecked
import Derived.WalkKit
import Derived.BigCall
import Derived.BigGuard
import Derived.LoopN
namespace Go.Proofs
open Go.Shelf Go.RowKit

def Tryz.dg (x : Nat) : UInt8 := UInt8.ofNat (48 + x)

theorem Tryz.Itoa_one (i : Nat) (hi : i < 10) (w : World) : Calls Tryz.prog 143 #[.int .i64 i] w fun e w' => e = .returned (.string ⟨#[Tryz.dg i]⟩) ∧ w' = w := by
  have h := Any.strconv_Itoa_small (ρ := Tryz.lays171_ren) Tryz.lays171 i (by omega) w
  have hd : Lib.decDigits i = [Tryz.dg i] := by rw [Lib.decDigits, dif_pos hi]; rfl
  rw [hd] at h
  exact h
theorem Tryz.WriteS (B b : Nat) (bs : List Value) (s : ByteArray) (w : World) (h : Lib.IsBuilder 47 5 B b bs w) (hlen : bs.length + s.size ≤ 140737488355328) (hBw : B ≤ w.heap.size) :
    Calls Tryz.prog 21 #[.pointer (some ⟨b, 0, none⟩), .string s] w fun e w' => e = .returned (.tuple #[.int .i64 s.size, .nilIface]) ∧ (Lib.BuilderAt 47 5 B b (.pointer (some ⟨b, 0, none⟩)) (bs ++ Lib.strCells s) w' ∧ Below B w w') :=
  Any.Builder_WriteString (ρ := Tryz.lays156_ren) { Tryz.lays156 with } Tryz.Builder_Extra_156 B b bs s w h hlen hBw
theorem Tryz.StringS (B b : Nat) (l : List UInt8) (w : World) (h : Lib.IsBuilder 47 5 B b (Lib.byteCells l) w) (hBw : B ≤ w.heap.size) :
    Calls Tryz.prog 23 #[.pointer (some ⟨b, 0, none⟩)] w fun e w' => e = .returned (.string ⟨l.toArray⟩) ∧ Below B w w' :=
  Any.Builder_String_any (ρ := Tryz.lays156_ren) { Tryz.lays156 with } Tryz.Builder_Extra_156 B b l w h hBw

set_option maxHeartbeats 4000000 in
set_option maxRecDepth 1000000 in
theorem Tryz.digits_row (bk o c : Nat) (xs : List Nat) (w : World) (hcells : ∀ (j : Nat) x, xs[j]? = some x → w.cell? ⟨bk, o + j, none⟩ = some (.int .i64 x)) (hx : ∀ x ∈ xs, x < 10) (hbk : bk < w.heap.size) (hN : xs.length ≤ 1000) :
    Calls Tryz.prog 104 #[.slice (some ⟨bk, o, none⟩) xs.length c] w fun e w' => e = .returned (.string ⟨(xs.map Tryz.dg).toArray⟩) ∧ Below w.heap.size w w' := by
  have HC := Any.hidJ hcells
  have HX := Any.hidJ hx
  clear hcells hx
  go_enter Tryz.func104, Tryz.ntmps104
  go_wp2_with fail
  go_loopw [8] (fun i wr => ∃ k : Nat, k ≤ xs.length ∧ i = .int .i64 k ∧ Hid (Lib.IsBuilder 47 5 w.heap.size w.heap.size (Lib.byteCells ((xs.take k).map Tryz.dg)) wr) ∧ Hid (Below w.heap.size w wr)) (fun i _ => xs.length - (intOf i).toNat)
  case atStart => exact ⟨0, Nat.zero_le _, rfl, Any.hidJ (Lib.fresh_isBuilder 47 5 w), Any.hidJ ((Below.refl w.heap.size w).alloc (Nat.le_refl _) _)⟩
  case round =>
    obtain ⟨k, hk, rfl, HB, HW⟩ := hrel
    by_cases hkn : k < xs.length
    · obtain ⟨x, hx⟩ : ∃ x, xs[k]? = some x := ⟨xs[k], List.getElem?_eq_getElem hkn⟩
      have hc : wr.cell? ⟨bk, o + k, none⟩ = some (.int .i64 x) := by
        rw [HW.out.cell (p := ⟨bk, o + k, none⟩) hbk]
        exact HC.out k x hx
      have hx10 := HX.out x (List.mem_of_getElem? hx)
      have hBw : w.heap.size ≤ wr.heap.size := HW.out.size
      have hnext : Lib.byteCells ((xs.take k).map Tryz.dg) ++ Lib.strCells ⟨#[Tryz.dg x]⟩ = Lib.byteCells ((xs.take (k + 1)).map Tryz.dg) := by
        have hxk : xs[k] = x := by rw [List.getElem?_eq_getElem hkn] at hx; exact Option.some.inj hx
        rw [List.take_succ_eq_append_getElem hkn, hxk, List.map_append, Lib.byteCells_append, Lib.strCells_eq]; rfl
      have Hn := Any.hidJ hnext
      clear hnext hx
      go_wp2_with fail
      refine (Tryz.Itoa_one x hx10 wr).mono ?_
      rintro e w2 ⟨rfl, rfl⟩
      go_wp2_with fail
      refine (Tryz.WriteS w.heap.size w.heap.size _ ⟨#[Tryz.dg x]⟩ _ HB.out (by rw [Lib.byteCells_length, List.length_map, List.length_take]; show _ + 1 ≤ _; omega) hBw).mono ?_
      rintro e w3 ⟨rfl, h3, hb3⟩
      rw [Hn.out] at h3
      have H3 := Any.hidJ (Or.inr h3 : Lib.IsBuilder 47 5 w.heap.size w.heap.size _ w3)
      have Hb3 := Any.hidJ (HW.out.trans hb3)
      clear h3 hb3
      go_wp2
      exact ⟨⟨k + 1, by omega, by go_num, H3, Hb3⟩, by simp [intOf]; omega⟩
    · have hke : k = xs.length := by omega
      subst hke
      have hB' := HB.out
      rw [List.take_length] at hB'
      have hBw : w.heap.size ≤ wr.heap.size := HW.out.size
      go_wp2_with fail
      refine (Tryz.StringS w.heap.size w.heap.size _ wr hB' hBw).mono ?_
      rintro e w5 ⟨rfl, hb5⟩
      have Hb5 := Any.hidJ (HW.out.trans hb5)
      clear hb5 hB'
      go_wp2
      go_ret
      exact ⟨rfl, Hb5.out⟩

set_option maxHeartbeats 4000000 in
set_option maxRecDepth 1000000 in
theorem Tryz.digits_none (a : Option Addr) (c : Nat) (w : World) :
    Calls Tryz.prog 104 #[.slice a 0 c] w fun e w' => e = .returned (.string ⟨#[]⟩) ∧ Below w.heap.size w w' := by
  go_enter Tryz.func104, Tryz.ntmps104
  go_wp2_with fail
  go_loopw [8] (fun i wr => i = .int .i64 0 ∧ Hid (Lib.IsBuilder 47 5 w.heap.size w.heap.size (Lib.byteCells []) wr) ∧ Hid (Below w.heap.size w wr)) (fun i _ => 0 - (intOf i).toNat)
  case atStart => exact ⟨rfl, Any.hidJ (Lib.fresh_isBuilder 47 5 w), Any.hidJ ((Below.refl w.heap.size w).alloc (Nat.le_refl _) _)⟩
  case round =>
    obtain ⟨rfl, HB, HW⟩ := hrel
    have hB' := HB.out
    have hBw : w.heap.size ≤ wr.heap.size := HW.out.size
    go_wp2_with fail
    refine (Tryz.StringS w.heap.size w.heap.size _ wr hB' hBw).mono ?_
    rintro e w5 ⟨rfl, hb5⟩
    have Hb5 := Any.hidJ (HW.out.trans hb5)
    clear hb5 hB'
    go_wp2
    go_ret
    exact ⟨rfl, Hb5.out⟩

/-- The answers to lines, each with a newline behind it. -/
def Tryz.dk (f : ByteArray → ByteArray) (l : List ByteArray) : List UInt8 := (l.map fun s => (f s).data.toList ++ [10]).flatten
theorem Tryz.dk_snoc (f : ByteArray → ByteArray) (l : List ByteArray) (s : ByteArray) : Tryz.dk f (l ++ [s]) = Tryz.dk f l ++ ((f s).data.toList ++ [10]) := by simp [Tryz.dk]
theorem Tryz.dk_len (f : ByteArray → ByteArray) : ∀ l : List ByteArray, (∀ s ∈ l, (f s).size ≤ 1000000) → (Tryz.dk f l).length ≤ l.length * 1000001
  | [], _ => by simp [Tryz.dk]
  | s :: l, h => by
    have h1 := h s (by simp)
    have h2 := Tryz.dk_len f l fun x hx => h x (by simp [hx])
    have h3 : (f s).data.toList.length = (f s).size := Array.length_toList
    have e : Tryz.dk f (s :: l) = ((f s).data.toList ++ [10]) ++ Tryz.dk f l := rfl
    have h4 : (s :: l).length = l.length + 1 := rfl
    have h5 : ([10] : List UInt8).length = 1 := rfl
    rw [e, List.length_append, List.length_append, h3, h4, h5]
    omega

theorem Tryz.keptA {T e : TypeId} {B b : Nat} {p : Value} {bs : List Value} {w w' : World} (h : Lib.BuilderAt T e B b p bs w) (hb : Below w.heap.size w w') : Lib.BuilderAt T e B b p bs w' := by
  have hlt := h.lt
  obtain ⟨h1, v, h2, h3, h4⟩ := h
  exact ⟨h1, v, (hb.block b hlt).trans h2, h3.kept (row := none) ⟨hb.os, hb.tape, hb.output, hb.size, fun k hk _ => hb.block k hk⟩ (Classical.em _), h4⟩
theorem Tryz.keptB {T e : TypeId} {B b : Nat} {bs : List Value} {w w' : World} (h : Lib.IsBuilder T e B b bs w) (hb : Below w.heap.size w w') : Lib.IsBuilder T e B b bs w' :=
  h.imp (fun h => Tryz.keptA h hb) fun h => Tryz.keptA h hb

theorem Tryz.add_run (s : ByteArray) (hs : s.size ≤ 1000000) : (Op.stringOp .add s ⟨#[10]⟩) = Sem.pure (.string (s ++ ⟨#[10]⟩)) := by
  have hno : ¬ (((s.size + (⟨#[10]⟩ : ByteArray).size : Nat) : Int) > IntKind.i64.max) := by
    rw [show IntKind.i64.max = 9223372036854775807 from rfl, show (⟨#[10]⟩ : ByteArray).size = 1 from rfl]; omega
  unfold Op.stringOp
  simp only [if_neg hno]; rfl

set_option maxHeartbeats 4000000 in
set_option maxRecDepth 1000000 in
theorem Tryz.desk_row (f : ByteArray → ByteArray) (bk o c : Nat) (xs : List ByteArray) (w : World) (hcells : ∀ (j : Nat) x, xs[j]? = some x → w.cell? ⟨bk, o + j, none⟩ = some (.string x))
    (hcall : ∀ s ∈ xs, (f s).size ≤ 1000000 ∧ ∀ w : World, Calls Tryz.prog 22 #[.string s] w fun e w' => e = .returned (.string (f s)) ∧ Below w.heap.size w w') (hbk : bk < w.heap.size) (hN : xs.length ≤ 20) :
    Calls Tryz.prog 6 #[.slice (some ⟨bk, o, none⟩) xs.length c] w fun e w' => e = .returned (.string ⟨(Tryz.dk f xs).toArray⟩) ∧ Below w.heap.size w w' := by
  have HC := Any.hidJ hcells
  have HX := Any.hidJ hcall
  clear hcells hcall
  have hlen : ¬ ((20 : Int) < (xs.length : Int)) := by omega
  go_enter Tryz.func6, Tryz.ntmps6
  go_wp2_with fail
  go_loopw [11] (fun i wr => ∃ k : Nat, k ≤ xs.length ∧ i = .int .i64 k ∧ Hid (Lib.IsBuilder 47 5 w.heap.size w.heap.size (Lib.byteCells (Tryz.dk f (xs.take k))) wr) ∧ Hid (Below w.heap.size w wr)) (fun i _ => xs.length - (intOf i).toNat)
  case atStart => exact ⟨0, Nat.zero_le _, rfl, Any.hidJ (Lib.fresh_isBuilder 47 5 w), Any.hidJ ((Below.refl w.heap.size w).alloc (Nat.le_refl _) _)⟩
  case round =>
    obtain ⟨k, hk, rfl, HB, HW⟩ := hrel
    by_cases hkn : k < xs.length
    · obtain ⟨x, hx⟩ : ∃ x, xs[k]? = some x := ⟨xs[k], List.getElem?_eq_getElem hkn⟩
      have hc : wr.cell? ⟨bk, o + k, none⟩ = some (.string x) := by
        rw [HW.out.cell (p := ⟨bk, o + k, none⟩) hbk]
        exact HC.out k x hx
      obtain ⟨hx1, hx2⟩ := HX.out x (List.mem_of_getElem? hx)
      have HX2 := Any.hidJ hx2
      have hBw : w.heap.size ≤ wr.heap.size := HW.out.size
      have hadd := Tryz.add_run (f x) hx1
      have hnext : Lib.byteCells (Tryz.dk f (xs.take k)) ++ Lib.strCells (f x ++ ⟨#[10]⟩) = Lib.byteCells (Tryz.dk f (xs.take (k + 1))) := by
        have hxk : xs[k] = x := by rw [List.getElem?_eq_getElem hkn] at hx; exact Option.some.inj hx
        rw [List.take_succ_eq_append_getElem hkn, hxk, Tryz.dk_snoc, Lib.byteCells_append, Lib.strCells_eq, ByteArray.data_append, Array.toList_append]
      have hdl := Tryz.dk_len f (xs.take k) fun s hs => (HX.out s (List.mem_of_mem_take hs)).1
      rw [List.length_take, Nat.min_eq_left hk] at hdl
      have hs2 : (f x ++ (⟨#[10]⟩ : ByteArray)).size = (f x).size + 1 := by rw [ByteArray.size_append]; rfl
      have Hn := Any.hidJ hnext
      have Hl := Any.hidJ hdl
      have Hs := Any.hidJ hs2
      clear hnext hx hdl hs2 hx2
      go_wp2_with fail
      refine (HX2.out wr).mono ?_
      rintro e w2 ⟨rfl, hb2⟩
      have Hb2 := Any.hidJ hb2
      clear hb2
      have HK := Any.hidJ (Tryz.keptB HB.out Hb2.out)
      have Hlen : (Lib.byteCells (Tryz.dk f (xs.take k))).length + (f x ++ (⟨#[10]⟩ : ByteArray)).size ≤ 140737488355328 := by
        rw [Lib.byteCells_length, Hs.out]
        have := Hl.out
        omega
      have Hsz : w.heap.size ≤ w2.heap.size := Nat.le_trans hBw Hb2.out.size
      have HC2 := Any.hidJ (Tryz.WriteS w.heap.size w.heap.size _ _ w2 HK.out Hlen Hsz)
      go_wp2_with fail
      refine HC2.out.mono ?_
      rintro e w3 ⟨rfl, h3, hb3⟩
      rw [Hn.out] at h3
      clear HC2 HK
      have H3 := Any.hidJ (Or.inr h3 : Lib.IsBuilder 47 5 w.heap.size w.heap.size _ w3)
      have Hb3 := Any.hidJ ((HW.out.trans (Hb2.out.mono hBw)).trans hb3)
      clear h3 hb3
      go_wp2
      exact ⟨⟨k + 1, by omega, by go_num, H3, Hb3⟩, by simp [intOf]; omega⟩
    · have hke : k = xs.length := by omega
      subst hke
      have hB' := HB.out
      rw [List.take_length] at hB'
      have hBw : w.heap.size ≤ wr.heap.size := HW.out.size
      go_wp2_with fail
      refine (Tryz.StringS w.heap.size w.heap.size _ wr hB' hBw).mono ?_
      rintro e w5 ⟨rfl, hb5⟩
      have Hb5 := Any.hidJ (HW.out.trans hb5)
      clear hb5 hB'
      go_wp2
      go_ret
      exact ⟨rfl, Hb5.out⟩

set_option maxHeartbeats 4000000 in
set_option maxRecDepth 1000000 in
theorem Tryz.desk_none (a : Option Addr) (c : Nat) (w : World) :
    Calls Tryz.prog 6 #[.slice a 0 c] w fun e w' => e = .returned (.string ⟨#[]⟩) ∧ Below w.heap.size w w' := by
  go_enter Tryz.func6, Tryz.ntmps6
  go_wp2_with fail
  go_loopw [11] (fun i wr => i = .int .i64 0 ∧ Hid (Lib.IsBuilder 47 5 w.heap.size w.heap.size (Lib.byteCells []) wr) ∧ Hid (Below w.heap.size w wr)) (fun i _ => 0 - (intOf i).toNat)
  case atStart => exact ⟨rfl, Any.hidJ (Lib.fresh_isBuilder 47 5 w), Any.hidJ ((Below.refl w.heap.size w).alloc (Nat.le_refl _) _)⟩
  case round =>
    obtain ⟨rfl, HB, HW⟩ := hrel
    have hB' := HB.out
    have hBw : w.heap.size ≤ wr.heap.size := HW.out.size
    go_wp2_with fail
    refine (Tryz.StringS w.heap.size w.heap.size _ wr hB' hBw).mono ?_
    rintro e w5 ⟨rfl, hb5⟩
    have Hb5 := Any.hidJ (HW.out.trans hb5)
    clear hb5 hB'
    go_wp2
    go_ret
    exact ⟨rfl, Hb5.out⟩

set_option maxHeartbeats 4000000 in
set_option maxRecDepth 1000000 in
theorem Tryz.desk_many (a : Option Addr) (n c : Nat) (hn : 20 < n) (w : World) :
    Calls Tryz.prog 6 #[.slice a n c] w fun e w' => e = .returned (.string ByteArray.empty) ∧ Below w.heap.size w w' := by
  have hlen : (20 : Int) < (n : Int) := by omega
  go_enter Tryz.func6, Tryz.ntmps6
  go_wp2_with fail
  go_ret
  exact ⟨rfl, Below.refl _ _⟩
end Go.Proofs
