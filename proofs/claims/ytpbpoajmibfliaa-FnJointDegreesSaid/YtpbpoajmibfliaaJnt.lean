/- The walks of two functions of the program. Conditions: as the theorems say. -/
import Derived.Test.YtpbpoajmibfliaaChecked
import Derived.WalkKit
import Derived.BigCall
import Derived.BigGuard
import Derived.LoopN
import Derived.Deep.CutRange
import Derived.DeepKeys4
import Derived.IntWalk
import Derived.Shelf.Bits.Mul64
import Derived.Laws.CopyOwn
import Derived.OwnWalk
import Derived.Test.YtpbpoajmibfliaaA4
set_option linter.all false
set_option linter.unusedVariables false
set_option linter.unusedSimpArgs false
namespace Go.Proofs
open Go.RowKit Go.Idl

theorem Try.laidOutJ : laidOutB Try.prog = true := by kernel_rfl
theorem Try.row69J : (69 : TypeId) < Try.prog.types.size := of_decide_eq_true (by kernel_rfl)
theorem Try.lawJ : WideMaps.KeyLaw Try.prog 69 := deep_law_laid Try.laidOutJ (m := 2) (by omega) Try.row69J (by kernel_rfl) (by rw [Try.underlying69])
theorem Try.info81J : (Try.prog.info? 81).map (fun i => (i.zero, i.size, i.bytes)) = some (some (.agg #[.int .i64 0, .int .i64 0, .int .i64 0]), 3, 24) := by kernel_rfl
theorem Try.zeroJ (w : World) : (zeroValue 3).run Try.prog w = .ok (.int .i64 0) w := by kernel_rfl
theorem Try.keyJ (k : Int × Int) (h1 : (Lit.int .i64 k.1).wf = true) (h2 : (Lit.int .i64 k.2).wf = true) : ∃ l, keyOf Try.prog 69 (kv k) = some l := by
  have hk : Try.prog.keyType 69 = true := by kernel_rfl
  have hc : Try.prog.cellsOf 69 = 2 := by kernel_rfl
  have hf : (kv k).formed Try.prog 69 = true := by simp [Value.formed, kv, Try.underlying69, hc]
  unfold keyOf
  rw [Try.underlying69]
  simp only [hk, hf, Bool.and_self, if_true]
  obtain ⟨d, hd⟩ : ∃ d, Try.prog.types.size + 1 = d + 2 := by
    have h0 : 0 < Try.prog.types.size := Nat.lt_of_le_of_lt (Nat.zero_le 69) Try.row69J
    exact ⟨Try.prog.types.size - 1, by omega⟩
  have hc3 : Try.prog.cellsOf 3 = 1 := by kernel_rfl
  have h3 : ∀ x : Int, (Lit.int .i64 x).wf = true → Try.prog.keyLits (d + 1) 3 [.int .i64 x] = some [.int .i64 x] := fun x hx => by
    unfold Program.keyLits
    simp only [Try.underlying3]
    simp [hx]
  have hcl : (kv k).cells.toList = [.int .i64 k.1, .int .i64 k.2] := rfl
  have hfs : (#[({ name := "A", type := 3, offset := 0, embedded := false, tag := "", pkgPath := "", byteOffset := 0 } : Field), { name := "B", type := 3, offset := 1, embedded := false, tag := "", pkgPath := "", byteOffset := 8 }].all (·.name != "_")) = true := by kernel_rfl
  rw [hd, hcl]
  unfold Program.keyLits
  simp only [Try.underlying69]
  simp only [hc, hfs, List.length_cons, List.length_nil, Nat.reduceAdd, and_self, if_true]
  simp only [List.mapM_cons, List.mapM_nil, hc3, List.drop_zero, List.drop_succ_cons, List.take_succ_cons, List.take_zero, h3 _ h1, h3 _ h2]
  exact ⟨_, rfl⟩


theorem sizeIs_of {P : Program} {t : TypeId} {e : Nat} (h : (P.info? t).map (·.size) = some e) : sizeIs P t e := by
  cases hi : P.info? t with
  | none => rw [hi] at h; cases h
  | some i => rw [hi] at h; exact ⟨i, hi, Option.some.inj h⟩
theorem Try.size69J : sizeIs Try.prog 69 2 := sizeIs_of (by kernel_rfl)
theorem Try.size3J : sizeIs Try.prog 3 1 := sizeIs_of (by kernel_rfl)
theorem Try.agg3J : aggIs Try.prog 3 false := ⟨_, Try.underlying3, rfl⟩
theorem Try.fieldAJ : fieldIs Try.prog 69 0 0 1 false := ⟨_, _, Try.underlying69, rfl, rfl, Try.size3J, Try.agg3J⟩
theorem Try.fieldBJ : fieldIs Try.prog 69 1 1 1 false := ⟨_, _, Try.underlying69, rfl, rfl, Try.size3J, Try.agg3J⟩
theorem Try.resJ (u v : Int) (w : World) (T : Array Value) (h : T.getD 4 undef = .pointer (some ⟨w.heap.size, 0, none⟩)) :
    (results Try.f68 T).run Try.prog (w.alloc (.cells #[.int .i64 u, .int .i64 v] 69)) = .ok (.agg #[.int .i64 u, .int .i64 v]) (w.alloc (.cells #[.int .i64 u, .int .i64 v] 69)) := by
  have h1 : Try.f68.results = #[.cell 4 69] := rfl
  have hag : aggIs Try.prog 69 true := ⟨_, Try.underlying69, rfl⟩
  have hsz := Go.Idl.run_sizeOf Try.size69J
  have h0 : T[4]?.getD undef = .pointer (some ⟨w.heap.size, 0, none⟩) := by rw [← h]; simp [Array.getD_eq_getD_getElem?]
  have hc := run_loadCells_list (P := Try.prog) (w.alloc (.cells #[.int .i64 u, .int .i64 v] 69)) ⟨w.heap.size, 0, none⟩ [.int .i64 u, .int .i64 v] (fun j x hj => by
    have ha : (⟨w.heap.size, 0, none⟩ : Addr).add j = ⟨w.heap.size, j, none⟩ := by rw [addr_add]; simp
    rw [ha]
    exact jcell (Below.refl _ _) (by simpa using hj))
  simp only [List.length_cons, List.length_nil, Nat.reduceAdd] at hc
  simp [results, h1, h0, asAddr, loadVar, run_isAgg hag, hsz, hc]
set_option maxHeartbeats 4000000 in
set_option maxRecDepth 1000000 in
theorem Try.edgeJ (x y : Int) (w : World) : Calls Try.prog 68 #[.int .i64 x, .int .i64 y] w fun e w' => e = .returned (kv (min x y, max x y)) ∧ Below w.heap.size w w' := by
  go_enter Try.func68, Try.ntmps68
  go_wp2_with fail
  all_goals
    (try simp only [Exit.inBlock, Exit.then])
    refine bodyPost_ret (Try.resJ _ _ w _ rfl) rfl ⟨?_, (Below.refl w.heap.size w).alloc (Nat.le_refl _) _⟩
    simp only [kv, Ending.returned.injEq, Value.agg.injEq, Array.mk.injEq, List.cons.injEq, Value.int.injEq, true_and, and_true]
    omega
theorem Try.clipJ (ad : Option Addr) (n cap : Nat) (h : n ≤ cap) (w : World) : Calls Try.prog 73 #[.slice ad n cap] w fun e w' => e = .returned (.slice ad n n) ∧ w' = w := by
  go_enter Try.func73, Try.ntmps73
  go_wp2_with fail
  go_ret
  exact ⟨rfl, rfl⟩

/-- What stands at a place of a region. -/
def IsOp (ops : Array Oper) (i : Nat) (d : Option Tmp) (op : Op) : Prop := ∃ o, ops[i]? = some o ∧ o.guard = none ∧ o.dst = d ∧ o.op = op

set_option maxHeartbeats 1000000 in
theorem Try.reg8 {ops : Array Oper} {K : Act → World → Prop} {b : Act} {w3 w5 : World} {bm bx bd od N cap : Nat} {x : Int × Int} {d1 d2 : Int} {ks : List (Int × Int)} {me : Array MapEntry} {clock : Nat}
    (I0 : IsOp ops 0 (some 23) (.move (.tmp 4)))
    (I1 : IsOp ops 1 (some 24) (.move (.tmp 3)))
    (I2 : IsOp ops 2 (some 25) (.fieldAddr 69 (.tmp 6) 0))
    (I3 : IsOp ops 3 (some 26) (.load 3 (.tmp 25)))
    (I4 : IsOp ops 4 (some 27) (.indexAddr 27 (.tmp 24) (.tmp 26)))
    (I5 : IsOp ops 5 (some 28) (.load 3 (.tmp 27)))
    (I6 : IsOp ops 6 (some 29) (.move (.tmp 3)))
    (I7 : IsOp ops 7 (some 30) (.fieldAddr 69 (.tmp 6) 1))
    (I8 : IsOp ops 8 (some 31) (.load 3 (.tmp 30)))
    (I9 : IsOp ops 9 (some 32) (.indexAddr 27 (.tmp 29) (.tmp 31)))
    (I10 : IsOp ops 10 (some 33) (.load 3 (.tmp 32)))
    (I11 : IsOp ops 11 (some 34) (.call { callee := .value (.func 68), args := #[.tmp 28, .tmp 33], argTypes := #[3, 3] }))
    (I12 : IsOp ops 12 (some 35) (.lookup 78 (.tmp 23) (.tmp 34) false))
    (I13 : IsOp ops 13 (some 36) (.binOp .add 3 (.tmp 35) (.const (.int .i64 1)) 3))
    (I14 : IsOp ops 14 (some 37) (.mapEntry 78 (.tmp 23) (.tmp 34)))
    (I15 : IsOp ops 15 (some 38) (.extract (.tmp 37) 1))
    (I16 : IsOp ops 16 (none) (.entryStore 78 (.tmp 23) (.tmp 38) (.tmp 36)))
    (hz : b.tmps.size = 60) (e3 : b.eval (.tmp 3) = .slice (some ⟨bd, od, none⟩) N cap) (e4 : b.eval (.tmp 4) = .map (some bm)) (e6 : b.eval (.tmp 6) = .pointer (some ⟨bx, 0, none⟩))
    (hbx0 : w5.cell? ⟨bx, 0, none⟩ = some (.int .i64 x.1)) (hbx1 : w5.cell? ⟨bx, 1, none⟩ = some (.int .i64 x.2))
    (he1 : w5.cell? ⟨bd, od + x.1.toNat * 1, none⟩ = some (.int .i64 d1)) (he2 : w5.cell? ⟨bd, od + x.2.toNat * 1, none⟩ = some (.int .i64 d2))
    (hr0 : 0 ≤ x.1) (hlt1 : x.1 < (N : Int)) (hr2 : 0 ≤ x.2) (hlt2 : x.2 < (N : Int))
    (hm5 : w5.heap[bm]? = some (.map me clock)) (hJ : JMap ks me clock) (hkm : ∀ y ∈ (min d1 d2, max d1 d2) :: ks, ∃ l, keyOf Try.prog 69 (kv y) = some l) (hcnt : (ks.count (min d1 d2, max d1 d2) : Int) ≤ 1000)
    (hB35 : Below bm w3 w5) (hlt : bm < w5.heap.size)
    (hend : ∀ (w' : World) (me' : Array MapEntry) (clock' : Nat), Below bm w3 w' → bm < w'.heap.size → w'.heap[bm]? = some (.map me' clock') → JMap (ks ++ [(min d1 d2, max d1 d2)]) me' clock' → ∀ u23 u24 u25 u26 u27 u28 u29 u30 u31 u32 u33 u34 u35 u36 u37 u38 : Value,
      K ((((((((((((((((b.put (some 23) u23).put (some 24) u24).put (some 25) u25).put (some 26) u26).put (some 27) u27).put (some 28) u28).put (some 29) u29).put (some 30) u30).put (some 31) u31).put (some 32) u32).put (some 33) u33).put (some 34) u34).put (some 35) u35).put (some 36) u36).put (some 37) u37).put (some 38) u38) w' ∧ K ((((((((((((((((b.put (some 23) u23).put (some 24) u24).put (some 25) u25).put (some 26) u26).put (some 27) u27).put (some 28) u28).put (some 29) u29).put (some 30) u30).put (some 31) u31).put (some 32) u32).put (some 33) u33).put (some 34) u34).put (some 37) u37).put (some 35) u35).put (some 36) u36).put (some 38) u38) w') :
    ∀ τ ∈ [List.range 17, [0,1,2,3,4,5,6,7,8,9,10,11,14,12,13,15,16]], wpY Try.prog ops jcls K τ b w5 := by
  obtain ⟨o0, ho0, hg0, hd0, hop0⟩ := I0
  obtain ⟨o1, ho1, hg1, hd1, hop1⟩ := I1
  obtain ⟨o2, ho2, hg2, hd2, hop2⟩ := I2
  obtain ⟨o3, ho3, hg3, hd3, hop3⟩ := I3
  obtain ⟨o4, ho4, hg4, hd4, hop4⟩ := I4
  obtain ⟨o5, ho5, hg5, hd5, hop5⟩ := I5
  obtain ⟨o6, ho6, hg6, hd6, hop6⟩ := I6
  obtain ⟨o7, ho7, hg7, hd7, hop7⟩ := I7
  obtain ⟨o8, ho8, hg8, hd8, hop8⟩ := I8
  obtain ⟨o9, ho9, hg9, hd9, hop9⟩ := I9
  obtain ⟨o10, ho10, hg10, hd10, hop10⟩ := I10
  obtain ⟨o11, ho11, hg11, hd11, hop11⟩ := I11
  obtain ⟨o12, ho12, hg12, hd12, hop12⟩ := I12
  obtain ⟨o13, ho13, hg13, hd13, hop13⟩ := I13
  obtain ⟨o14, ho14, hg14, hd14, hop14⟩ := I14
  obtain ⟨o15, ho15, hg15, hd15, hop15⟩ := I15
  obtain ⟨o16, ho16, hg16, hd16, hop16⟩ := I16
  have hL : ∀ rest : List Nat, (∀ (b' : Act) (w6 : World), b'.tmps.size = 60 → b'.eval (.tmp 23) = .map (some bm) → b'.eval (.tmp 34) = kv (min d1 d2, max d1 d2) → Below bm w3 w6 → bm < w6.heap.size → w6.heap[bm]? = some (.map me clock) →
      (∃ u23 u24 u25 u26 u27 u28 u29 u30 u31 u32 u33 u34, b' = ((((((((((((b.put (some 23) u23).put (some 24) u24).put (some 25) u25).put (some 26) u26).put (some 27) u27).put (some 28) u28).put (some 29) u29).put (some 30) u30).put (some 31) u31).put (some 32) u32).put (some 33) u33).put (some 34) u34)) → wpY Try.prog ops jcls K rest b' w6) → wpY Try.prog ops jcls K ([0, 1, 2, 3, 4, 5, 6, 7, 8, 9, 10, 11] ++ rest) b w5 := by
    intro rest hrest
    refine yMv (.tmp 4) (.map (some bm)) ho0 rfl hg0 hd0 hop0 (by simp [ePut, ePuts, zPut, hz, e3, e4, e6]) ?_
    refine yMv (.tmp 3) (.slice (some ⟨bd, od, none⟩) N cap) ho1 rfl hg1 hd1 hop1 (by simp [ePut, ePuts, zPut, hz, e3, e4, e6]) ?_
    refine yFadr bx 0 (.tmp 6) ho2 rfl hg2 hd2 hop2 Try.fieldAJ (by decide) (by simp [ePut, ePuts, zPut, hz, e3, e4, e6]) ?_
    refine yLoad (.int .i64 x.1) bx 0 (.tmp 25) ho3 rfl hg3 hd3 hop3 Try.agg3J (by simp [ePut, ePuts, zPut, hz, e3, e4, e6]) hbx0 ?_
    refine yIadr bd od N cap x.1 (.tmp 24) (.tmp 26) ho4 rfl hg4 hd4 hop4 Try.underlying27 Try.size3J (by simp [ePut, ePuts, zPut, hz, e3, e4, e6]) (by simp [ePut, ePuts, zPut, hz, e3, e4, e6]) hr0 hlt1 ?_
    refine yLoad (.int .i64 d1) bd (od + x.1.toNat * 1) (.tmp 27) ho5 rfl hg5 hd5 hop5 Try.agg3J (by simp [ePut, ePuts, zPut, hz, e3, e4, e6]) he1 ?_
    refine yMv (.tmp 3) (.slice (some ⟨bd, od, none⟩) N cap) ho6 rfl hg6 hd6 hop6 (by simp [ePut, ePuts, zPut, hz, e3, e4, e6]) ?_
    refine yFadr bx 0 (.tmp 6) ho7 rfl hg7 hd7 hop7 Try.fieldBJ (by decide) (by simp [ePut, ePuts, zPut, hz, e3, e4, e6]) ?_
    refine yLoad (.int .i64 x.2) bx 1 (.tmp 30) ho8 rfl hg8 hd8 hop8 Try.agg3J (by simp [ePut, ePuts, zPut, hz, e3, e4, e6]) hbx1 ?_
    refine yIadr bd od N cap x.2 (.tmp 29) (.tmp 31) ho9 rfl hg9 hd9 hop9 Try.underlying27 Try.size3J (by simp [ePut, ePuts, zPut, hz, e3, e4, e6]) (by simp [ePut, ePuts, zPut, hz, e3, e4, e6]) hr2 hlt2 ?_
    refine yLoad (.int .i64 d2) bd (od + x.2.toNat * 1) (.tmp 32) ho10 rfl hg10 hd10 hop10 Try.agg3J (by simp [ePut, ePuts, zPut, hz, e3, e4, e6]) he2 ?_
    refine yEnter (f := 68) (args := #[.int .i64 d1, .int .i64 d2]) ho11 rfl hg11 hd11 ?_ ?_
    · rw [run_call (cvs := []) (f := 68) ⟨_, Try.func68, by kernel_rfl, by kernel_rfl⟩ hop11 rfl rfl w5]
      simp [ePut, ePuts, zPut, hz]
    refine (Try.edgeJ d1 d2 w5).mono ?_
    rintro e w6 ⟨rfl, hB6⟩
    exact ⟨_, rfl, hrest _ w6 (by simp [zPut, hz]) (by simp [ePut, ePuts, zPut, hz]) (by simp [ePuts, zPut, hz]) (hB35.trans (hB6.mono (Nat.le_of_lt hlt))) (Nat.lt_of_lt_of_le hlt hB6.size) ((hB6.block _ hlt).trans hm5) ⟨_, _, _, _, _, _, _, _, _, _, _, _, rfl⟩⟩
  intro τ hτ
  simp only [List.mem_cons, List.not_mem_nil, or_false] at hτ
  have hzr : ∀ w : World, (zeroValue 3).run Try.prog w = .ok (.int .i64 0) w := Try.zeroJ
  have hwr : IntKind.i64.wrap ((ks.count (min d1 d2, max d1 d2) : Int) + 1) = (ks.count (min d1 d2, max d1 d2) : Int) + 1 := wrapJ (by omega)
  rcases hτ with rfl | rfl
  · change wpY _ _ _ _ ([0, 1, 2, 3, 4, 5, 6, 7, 8, 9, 10, 11] ++ [12, 13, 14, 15, 16]) _ _
    refine hL _ fun b' w6 z6 f23 f34 hB6 hl6 hm6 ⟨u23, u24, u25, u26, u27, u28, u29, u30, u31, u32, u33, u34, hb'⟩ => ?_
    have hlk := jlook Try.lawJ Try.underlying78 (hzr w6) hm6 hJ hkm
    obtain ⟨v0, st, es1, c1, hent, -, hsto⟩ := jentry (w := w6) Try.lawJ Try.underlying78 hzr hm6 hJ hkm
    have hm7 := ChangeMaps.heap_setBlock_same hm6 (.map es1 c1)
    obtain ⟨es', c', hst, hJ'⟩ := hsto _ hm7
    refine yVal (v := .int .i64 (ks.count (min d1 d2, max d1 d2) : Int)) (w' := w6) ho12 rfl hg12 hd12 (by simp [execOp, hop12, f23, f34, hlk, Result.andThen]) ?_
    refine yAdd (ks.count (min d1 d2, max d1 d2) : Int) 1 (.tmp 35) (.const (.int .i64 1)) ho13 rfl hg13 hd13 hop13 (by simp [ePuts, zPut, z6]) rfl hwr ?_
    refine yVal (v := .tuple #[v0, goInt st]) (w' := ChangeMaps.setBlock w6 bm (.map es1 c1)) ho14 rfl hg14 hd14 (by simp [execOp, hop14, ePut, f23, f34, hent, Result.andThen]) ?_
    refine yExt #[v0, goInt st] 1 (goInt st) (.tmp 37) ho15 rfl hg15 hd15 hop15 (by simp [ePuts, zPut, z6]) rfl ?_
    refine ySkip (w' := ChangeMaps.setBlock (ChangeMaps.setBlock w6 bm (.map es1 c1)) bm (.map es' c')) ho16 rfl hg16 hd16 (by simp [execOp, hop16, ePut, ePuts, zPut, z6, f23, hst, Result.andThen]) ?_
    rw [hb']
    exact (hend _ es' c' (setBlock_below (setBlock_below hB6 (Nat.le_refl _)) (Nat.le_refl _)) (by simpa [ChangeMaps.setBlock] using hl6) (ChangeMaps.heap_setBlock_same hm7 _) hJ' _ _ _ _ _ _ _ _ _ _ _ _ _ _ _ _).1
  · change wpY _ _ _ _ ([0, 1, 2, 3, 4, 5, 6, 7, 8, 9, 10, 11] ++ [14, 12, 13, 15, 16]) _ _
    refine hL _ fun b' w6 z6 f23 f34 hB6 hl6 hm6 ⟨u23, u24, u25, u26, u27, u28, u29, u30, u31, u32, u33, u34, hb'⟩ => ?_
    obtain ⟨v0, st, es1, c1, hent, hlk, hsto⟩ := jentry (w := w6) Try.lawJ Try.underlying78 hzr hm6 hJ hkm
    have hm7 := ChangeMaps.heap_setBlock_same hm6 (.map es1 c1)
    have hlk := hlk _ hm7
    obtain ⟨es', c', hst, hJ'⟩ := hsto _ hm7
    refine yVal (v := .tuple #[v0, goInt st]) (w' := ChangeMaps.setBlock w6 bm (.map es1 c1)) ho14 rfl hg14 hd14 (by simp [execOp, hop14, f23, f34, hent, Result.andThen]) ?_
    refine yVal (v := .int .i64 (ks.count (min d1 d2, max d1 d2) : Int)) (w' := ChangeMaps.setBlock w6 bm (.map es1 c1)) ho12 rfl hg12 hd12 (by simp [execOp, hop12, ePut, f23, f34, hlk, Result.andThen]) ?_
    refine yAdd (ks.count (min d1 d2, max d1 d2) : Int) 1 (.tmp 35) (.const (.int .i64 1)) ho13 rfl hg13 hd13 hop13 (by simp [ePuts, zPut, z6]) rfl hwr ?_
    refine yExt #[v0, goInt st] 1 (goInt st) (.tmp 37) ho15 rfl hg15 hd15 hop15 (by simp [ePut, ePuts, zPut, z6]) rfl ?_
    refine ySkip (w' := ChangeMaps.setBlock (ChangeMaps.setBlock w6 bm (.map es1 c1)) bm (.map es' c')) ho16 rfl hg16 hd16 (by simp [execOp, hop16, ePut, ePuts, zPut, z6, f23, hst, Result.andThen]) ?_
    rw [hb']
    exact (hend _ es' c' (setBlock_below (setBlock_below hB6 (Nat.le_refl _)) (Nat.le_refl _)) (by simpa [ChangeMaps.setBlock] using hl6) (ChangeMaps.heap_setBlock_same hm7 _) hJ' _ _ _ _ _ _ _ _ _ _ _ _ _ _ _ _).2
end Go.Proofs

namespace Go.Proofs
open Go.RowKit Go.Idl
set_option maxHeartbeats 1000000 in
set_option maxRecDepth 1000000 in
theorem Try.joint_row (n : Int) (ea : Option Addr) (c : Nat) (es : List (Int × Int)) (D : List Int) (R : List (Int × Int × Int)) (w : World) (hR : ∀ x ∈ es, 0 ≤ x.1 ∧ x.1.toNat < D.length ∧ 0 ≤ x.2 ∧ x.2.toNat < D.length) (hDr : ∀ d ∈ D, 0 ≤ d ∧ d ≤ 1000) (hel : es.length ≤ 1000)
    (hE : ∀ (j : Nat) x, es[j]? = some x → ∃ be oe, ea = some ⟨be, oe, none⟩ ∧ be < w.heap.size ∧ w.cell? ⟨be, oe + j * 2, none⟩ = some (.int .i64 x.1) ∧ w.cell? ⟨be, oe + j * 2 + 1, none⟩ = some (.int .i64 x.2))
    (hV : ∀ w', Below w.heap.size w w' → Calls Try.prog 12 #[.agg #[.int .i64 n, .slice ea es.length c]] w' fun e w'' => e = .returned (.bool true) ∧ Below w'.heap.size w' w'')
    (hD : ∀ w', Below w.heap.size w w' → Calls Try.prog 58 #[.agg #[.int .i64 n, .slice ea es.length c]] w' fun e w'' => ∃ ad cap, e = .returned (.slice ad D.length cap) ∧ Below w'.heap.size w' w'' ∧
      ∀ (j : Nat) x, D[j]? = some x → ∃ bd od, ad = some ⟨bd, od, none⟩ ∧ w'.heap.size ≤ bd ∧ bd < w''.heap.size ∧ w''.cell? ⟨bd, od + j, none⟩ = some (.int .i64 x))
    (hS : ∀ (π : List (Int × Int × Int)) (v : Value) (B : Nat) (w' : World), Below w.heap.size w w' → w.heap.size ≤ B → B ≤ w'.heap.size → π.Perm (cntK (keysJ D es)) → w'.ownsRow B 81 3 v π.length (rowV π) →
      Calls Try.prog 69 #[v, .func (.func 70) #[] #[]] w' fun e w'' => (∃ u, e = .returned u) ∧ Below B w' w'' ∧
        (R = [] ∧ (∃ a cap, v = .slice a 0 cap) ∨ ∃ g cap cur ty, v = .slice (some ⟨g, 0, none⟩) R.length cap ∧ B ≤ g ∧ R.length ≤ cap ∧ w''.heap[g]? = some (.cells cur ty (0, 0)) ∧ R.length * 3 ≤ cur.size ∧ cur.toList.take (R.length * 3) = rowV R)) :
    Calls Try.prog 23 #[.agg #[.int .i64 n, .slice ea es.length c]] w fun e w' => ∃ v, e = .returned v ∧ Below w.heap.size w w' ∧
      (R = [] ∧ (∃ a, v = .slice a 0 0) ∨ ∃ g cur ty, R ≠ [] ∧ v = .slice (some ⟨g, 0, none⟩) R.length R.length ∧ w.heap.size ≤ g ∧ w'.heap[g]? = some (.cells cur ty (0, 0)) ∧ R.length * 3 ≤ cur.size ∧ cur.toList.take (R.length * 3) = rowV R) := by
  have HE := hidJ hE
  have HV := hidJ hV
  have HD := hidJ hD
  have HR := hidJ hR
  have HDr := hidJ hDr
  have HSo := hidJ hS
  clear hE hV hD hR hDr hS
  go_enter Try.func23, Try.ntmps23
  go_wp2_with fail
  refine (HV.out _ ((Below.refl w.heap.size w).alloc (Nat.le_refl _) _)).mono ?_
  rintro e w2 ⟨rfl, hb2⟩
  have HB2 := hidJ hb2
  clear hb2
  have hx0 : w2.cell? ⟨w.heap.size, 0, none⟩ = some (.int .i64 n) := jcell HB2.out rfl
  have hx1 : w2.cell? ⟨w.heap.size, 1, none⟩ = some (.slice ea es.length c) := jcell HB2.out rfl
  go_wp2_with fail
  have HW2 := hidJ (((Below.refl w.heap.size w).alloc (Nat.le_refl _) _).trans (HB2.out.mono (jalloc_le w _)))
  refine (HD.out _ HW2.out).mono ?_
  rintro e w3 ⟨ad, cap, rfl, hb3, hd3⟩
  have HD3 := hidJ hd3
  have hs2 : w.heap.size < w2.heap.size := Nat.lt_of_lt_of_le (jalloc_lt w _) HB2.out.size
  have hx3 : w3.cell? ⟨w.heap.size, 1, none⟩ = some (.slice ea es.length c) := (hb3.cell hs2).trans hx1
  have HW3 := hidJ (HW2.out.trans (hb3.mono (Nat.le_of_lt hs2)))
  have HS3 := hidJ hb3.size
  clear hb3 hd3 hx0 hx1
  have hmk := run_makeMap (P := Try.prog) 78 w3
  have hm3 : (w3.alloc (.map #[] 0)).cell? ⟨w.heap.size, 1, none⟩ = some (.slice ea es.length c) := by
    rw [World.cell?_of_block (w := w3) (w' := w3.alloc (.map #[] 0)) (a := ⟨w.heap.size, 1, none⟩) (Below.heap_alloc _ _ _ (Nat.lt_of_lt_of_le hs2 HS3.out))]
    exact hx3
  go_wp2_with fail
  go_loopw [19] (fun i wr => ∃ k : Nat, k ≤ es.length ∧ i = .int .i64 k ∧ Hid (Below w3.heap.size w3 wr ∧ w3.heap.size < wr.heap.size) ∧ Hid (∃ me clock, wr.heap[w3.heap.size]? = some (.map me clock) ∧ JMap ((keysJ D es).take k) me clock)) (fun i _ => es.length - (intOf i).toNat)
  case atStart => exact ⟨0, Nat.zero_le _, rfl, hidJ ⟨(Below.refl w3.heap.size w3).alloc (Nat.le_refl _) _, jalloc_lt _ _⟩, hidJ ⟨#[], 0, heap_alloc_new _ _, jmap_nil⟩⟩
  case round =>
    obtain ⟨k, hk, rfl, HB4, HM⟩ := hrel
    by_cases hkn : k < es.length
    · obtain ⟨x, hx⟩ : ∃ x, es[k]? = some x := ⟨es[k], List.getElem?_eq_getElem hkn⟩
      obtain ⟨be, oe, rfl, hbe, hx0, hx1⟩ := HE.out k x hx
      have hc0 : wr.cell? ⟨be, oe + k * 2, none⟩ = some (.int .i64 x.1) := by
        rw [HB4.out.1.cell (p := ⟨be, oe + k * 2, none⟩) (Nat.lt_of_lt_of_le hbe HW3.out.size), HW3.out.cell (p := ⟨be, oe + k * 2, none⟩) hbe]; exact hx0
      have hc1 : wr.cell? ⟨be, oe + k * 2 + 1, none⟩ = some (.int .i64 x.2) := by
        rw [HB4.out.1.cell (p := ⟨be, oe + k * 2 + 1, none⟩) (Nat.lt_of_lt_of_le hbe HW3.out.size), HW3.out.cell (p := ⟨be, oe + k * 2 + 1, none⟩) hbe]; exact hx1
      clear hx0 hx1
      go_wp2_with fail
      refine wp_drawn (cls := jcls) (alts := [[0,1,2,3,4,5,6,7,8,9,10,11,14,12,13,15,16]]) (by kernel_rfl) (by kernel_rfl) (fun a w h => h) fun τ hτ => ?_
      change wpY _ _ _ _ τ _ (World.drewJ (wr.alloc (Obj.cells #[Value.int IntKind.i64 x.fst, Value.int IntKind.i64 x.snd] 69)))
      have hB5 : Below wr.heap.size wr (World.drewJ (wr.alloc (Obj.cells #[Value.int IntKind.i64 x.fst, Value.int IntKind.i64 x.snd] 69))) := drew_below ((Below.refl _ _).alloc (Nat.le_refl _) _)
      have hl5 : wr.heap.size < (World.drewJ (wr.alloc (Obj.cells #[Value.int IntKind.i64 x.fst, Value.int IntKind.i64 x.snd] 69))).heap.size := jalloc_lt _ _
      have hc5 : (World.drewJ (wr.alloc (Obj.cells #[Value.int IntKind.i64 x.fst, Value.int IntKind.i64 x.snd] 69))).cell? ⟨wr.heap.size, 0, none⟩ = some (.int .i64 x.1) := jcell (w := wr) (cs := #[.int .i64 x.1, .int .i64 x.2]) (Below.refl _ _) rfl
      have hd5 : (World.drewJ (wr.alloc (Obj.cells #[Value.int IntKind.i64 x.fst, Value.int IntKind.i64 x.snd] 69))).cell? ⟨wr.heap.size, 1, none⟩ = some (.int .i64 x.2) := jcell (w := wr) (cs := #[.int .i64 x.1, .int .i64 x.2]) (Below.refl _ _) rfl
      generalize World.drewJ (wr.alloc (Obj.cells #[Value.int IntKind.i64 x.fst, Value.int IntKind.i64 x.snd] 69)) = w5 at hB5 hl5 hc5 hd5
      obtain ⟨hr0, hr1, hr2, hr3⟩ := HR.out x (List.mem_of_getElem? hx)
      obtain ⟨bd, od, rfl, hbd1, hbd2, hbd3⟩ := HD3.out x.1.toNat _ (List.getElem?_eq_getElem hr1)
      obtain ⟨bd', od', heq, -, -, hbd4⟩ := HD3.out x.2.toNat _ (List.getElem?_eq_getElem hr3)
      simp only [Option.some.injEq, Addr.mk.injEq, and_true] at heq
      obtain ⟨rfl, rfl⟩ := heq
      have hlr : w3.heap.size < wr.heap.size := HB4.out.2
      have hB35 : Below w3.heap.size w3 w5 := HB4.out.1.trans (hB5.mono (Nat.le_of_lt hlr))
      have he1 : w5.cell? ⟨bd, od + x.1.toNat * 1, none⟩ = some (.int .i64 D[x.1.toNat]) := by
        rw [Nat.mul_one, hB35.cell (p := ⟨bd, od + x.1.toNat, none⟩) hbd2]; exact hbd3
      have he2 : w5.cell? ⟨bd, od + x.2.toNat * 1, none⟩ = some (.int .i64 D[x.2.toNat]) := by
        rw [Nat.mul_one, hB35.cell (p := ⟨bd, od + x.2.toNat, none⟩) hbd2]; exact hbd4
      have hlt1 : x.1 < (D.length : Int) := by omega
      have hlt2 : x.2 < (D.length : Int) := by omega
      have ge1 : D.getD x.1.toNat 0 = D[x.1.toNat] := by simp [List.getD_eq_getElem?_getD, hr1]
      have ge2 : D.getD x.2.toNat 0 = D[x.2.toNat] := by simp [List.getD_eq_getElem?_getD, hr3]
      have htk := keysJ_get (D := D) hx
      rw [ge1, ge2] at htk
      generalize D[x.1.toNat] = d1 at he1 htk
      generalize D[x.2.toNat] = d2 at he2 htk
      obtain ⟨me, clock, hm1, hJ⟩ := HM.out
      have hm5 : w5.heap[w3.heap.size]? = some (.map me clock) := (hB5.block _ hlr).trans hm1
      have hkm : ∀ y ∈ (min d1 d2, max d1 d2) :: (keysJ D es).take k, ∃ l, keyOf Try.prog 69 (kv y) = some l := fun y hy => by
        have hy' : y ∈ keysJ D es := by
          have : y ∈ (keysJ D es).take (k + 1) := by rw [htk]; simpa [or_comm] using hy
          exact List.mem_of_mem_take this
        obtain ⟨q1, q2⟩ := keysJ_mem HR.out HDr.out hy'
        exact Try.keyJ y (wfJ q1) (wfJ q2)
      have hcnt : (((keysJ D es).take k).count (min d1 d2, max d1 d2) : Int) ≤ 1000 := by
        have q1 := List.count_le_length (a := (min d1 d2, max d1 d2)) (l := (keysJ D es).take k)
        have q2 : ((keysJ D es).take k).length ≤ k := List.length_take_le _ _
        omega
      refine Try.reg8 (w3 := w3) (bm := w3.heap.size) (bx := wr.heap.size) (bd := bd) (od := od) (N := D.length) (cap := cap) (x := x) (d1 := d1) (d2 := d2) (ks := (keysJ D es).take k) (me := me) (clock := clock)
        ⟨_, rfl, rfl, rfl, rfl⟩ ⟨_, rfl, rfl, rfl, rfl⟩ ⟨_, rfl, rfl, rfl, rfl⟩ ⟨_, rfl, rfl, rfl, rfl⟩ ⟨_, rfl, rfl, rfl, rfl⟩ ⟨_, rfl, rfl, rfl, rfl⟩ ⟨_, rfl, rfl, rfl, rfl⟩ ⟨_, rfl, rfl, rfl, rfl⟩ ⟨_, rfl, rfl, rfl, rfl⟩ ⟨_, rfl, rfl, rfl, rfl⟩ ⟨_, rfl, rfl, rfl, rfl⟩ ⟨_, rfl, rfl, rfl, rfl⟩ ⟨_, rfl, rfl, rfl, rfl⟩ ⟨_, rfl, rfl, rfl, rfl⟩ ⟨_, rfl, rfl, rfl, rfl⟩ ⟨_, rfl, rfl, rfl, rfl⟩ ⟨_, rfl, rfl, rfl, rfl⟩
        rfl rfl rfl rfl hc5 hd5 he1 he2 hr0 hlt1 hr2 hlt2 hm5 hJ hkm hcnt hB35 (Nat.lt_trans hlr hl5) (fun w' me' clock' hB' hl' hm' hJ' u23 u24 u25 u26 u27 u28 u29 u30 u31 u32 u33 u34 u35 u36 u37 u38 => ?_) τ hτ
      have HB6 := hidJ (And.intro hB' hl')
      have HM6 := hidJ (⟨me', clock', hm', by rw [htk]; exact hJ'⟩ : ∃ me clock, w'.heap[w3.heap.size]? = some (.map me clock) ∧ JMap ((keysJ D es).take (k + 1)) me clock)
      clear hJ' hm' hB' hl' hkm hcnt hm5 hJ hm1 htk ge1 ge2 he1 he2 hlt1 hlt2 hB35 hlr hc5 hd5 hl5 hB5 hτ hc0 hc1
      constructor
      · simp only [Exit.inBlock, Exit.then, Act.put, List.setIfInBounds_toArray, List.set_cons_succ, List.set_cons_zero]
        go_wp2
        exact ⟨⟨k + 1, by omega, by go_num, HB6, HM6⟩, by simp [intOf]; omega⟩
      · simp only [Exit.inBlock, Exit.then, Act.put, List.setIfInBounds_toArray, List.set_cons_succ, List.set_cons_zero]
        go_wp2
        exact ⟨⟨k + 1, by omega, by go_num, HB6, HM6⟩, by simp [intOf]; omega⟩
    · have hke : k = es.length := by omega
      subst hke
      obtain ⟨w4, hw4⟩ : ∃ w4, w4 = wr := ⟨wr, rfl⟩
      subst hw4
      obtain ⟨me, clock, hm1, hJ⟩ := HM.out
      have hrg := run_range_map w4 78 69 3 w3.heap.size me clock Try.underlying78 hm1
      rw [show (keysJ D es).take es.length = keysJ D es from List.take_of_length_le (by simp [keysJ])] at hJ
      have HJ := hidJ hJ
      have HM1 := hidJ hm1
      clear hJ hm1 HM
      go_wp2_with fail
      have hlr : w3.heap.size < w4.heap.size := HB4.out.2
      have hbm : (w4.alloc (.mapIter (some w3.heap.size) clock #[] clock)).heap[w3.heap.size]? = some (.map me clock) := (Below.heap_alloc _ _ _ hlr).trans HM1.out
      go_loopw [7] (fun v wx => ∃ (L : List MapEntry) (seen : Array Nat), Hid (Below w4.heap.size w4 wx ∧ w4.heap.size < wx.heap.size) ∧ Hid (wx.heap[w4.heap.size]? = some (.mapIter (some w3.heap.size) clock seen clock)) ∧ Hid (JSeen me seen L) ∧
        Hid (wx.ownsRow (w4.heap.size + 1) 81 3 v L.length (rowV (L.map decJ)))) (fun _ wx => jleft wx w3.heap.size w4.heap.size)
      case atStart => exact ⟨[], #[], hidJ ⟨(Below.refl _ _).alloc (Nat.le_refl _) _, jalloc_lt _ _⟩, hidJ (heap_alloc_new _ _), hidJ (jseen_nil _), hidJ (World.ownsRow_nil _ _ _ _)⟩
      case round =>
        obtain ⟨L, seen, HBL, HI, HS, HO⟩ := hrel
        have hm6 : wr.heap[w3.heap.size]? = some (.map me clock) := (HBL.out.1.block _ hlr).trans HM1.out
        rcases run_next_at (P := Try.prog) wr 0 w4.heap.size w3.heap.size clock clock seen me clock HI.out hm6 HJ.out.born (Nat.le_refl _) with ⟨h0, hnx⟩ | ⟨e, he, w1, hw1, hnx⟩
        · have hp := jseen_all HJ.out HS.out h0
          have hL : (L.map decJ).length = L.length := List.length_map _
          have HO' := HO.out
          rw [← hL] at HO'
          have hb1 : w.heap.size ≤ w4.heap.size + 1 := Nat.le_trans (Nat.le_trans HW3.out.size (Nat.le_of_lt hlr)) (Nat.le_succ _)
          have hb2 : Below w.heap.size w wr := HW3.out.trans ((HB4.out.1.trans (HBL.out.1.mono (Nat.le_of_lt hlr))).mono HW3.out.size)
          have HSRT := hidJ (HSo.out (L.map decJ) u7 (w4.heap.size + 1) wr hb2 hb1 HBL.out.2 hp HO')
          have HB2 := hidJ hb2
          clear hp hL HO' hb2 h0
          go_wp2_with fail
          refine HSRT.out.mono ?_
          rintro e w8 ⟨⟨u, rfl⟩, hb8, hrow⟩
          have HB8 := hidJ (HB2.out.trans (hb8.mono hb1))
          have HR8 := hidJ hrow
          clear hb8 hrow HSRT
          obtain ⟨ad8, n8, cap8, hv8, hle8⟩ : ∃ ad n cap, u7 = .slice ad n cap ∧ n ≤ cap := by
            rcases HR8.out with ⟨-, a, cp, h⟩ | ⟨g, cp, cur, ty, h, -, h2, -⟩
            · exact ⟨a, 0, cp, h, Nat.zero_le _⟩
            · exact ⟨_, _, _, h, h2⟩
          subst hv8
          go_wp2_with fail
          refine (Try.clipJ ad8 n8 cap8 hle8 w8).mono ?_
          rintro e w9 ⟨rfl, rfl⟩
          go_wp2
          go_ret
          refine ⟨_, rfl, HB8.out, ?_⟩
          rcases HR8.out with ⟨h', a, cp, h⟩ | ⟨g, cp, cur, ty, h, h1, h2, h3, h4, h5⟩
          · cases h
            exact .inl ⟨h', _, rfl⟩
          · cases h
            by_cases hR0 : R = []
            · subst hR0
              exact .inl ⟨rfl, _, rfl⟩
            · exact .inr ⟨g, cur, ty, hR0, rfl, Nat.le_trans hb1 h1, h3, h4, h5⟩
        · obtain ⟨hem, hes⟩ := mem_left he
          obtain ⟨q, hq, hk1, hv1⟩ := HJ.out.val e hem
          have hI7 := HI.out
          have hw1h : w1.heap = wr.heap := by rcases hw1 with rfl | rfl <;> rfl
          have hI1 : w1.heap[w4.heap.size]? = some (.mapIter (some w3.heap.size) clock seen clock) := by rw [hw1h]; exact hI7
          have hm1 : w1.heap[w3.heap.size]? = some (.map me clock) := by rw [hw1h]; exact hm6
          have hset : (ChangeMaps.setBlock w1 w4.heap.size (.mapIter (some w3.heap.size) clock (seen.push e.born) clock)).heap[w4.heap.size]? = some (.mapIter (some w3.heap.size) clock (seen.push e.born) clock) ∧ ∀ r', r' ≠ w4.heap.size → (ChangeMaps.setBlock w1 w4.heap.size (.mapIter (some w3.heap.size) clock (seen.push e.born) clock)).heap[r']? = w1.heap[r']? := MapKept.heap_set hI1
          have hen := run_entry_at (P := Try.prog) (ChangeMaps.setBlock w1 w4.heap.size (.mapIter (some w3.heap.size) clock (seen.push e.born) clock)) w4.heap.size w3.heap.size clock seen me clock e hset.1 ((hset.2 _ (Nat.ne_of_lt hlr)).trans hm1) hem HJ.out.nd
          have hdec := decJ_eq hk1 hv1
          rw [hk1, hv1] at hnx hen
          have hBx : Below w4.heap.size w4 (ChangeMaps.setBlock w1 w4.heap.size (.mapIter (some w3.heap.size) clock (seen.push e.born) clock)) := by
            refine setBlock_below ?_ (Nat.le_refl _)
            rcases hw1 with rfl | rfl
            · exact HBL.out.1
            · exact drew_below HBL.out.1
          have hsx : (ChangeMaps.setBlock w1 w4.heap.size (.mapIter (some w3.heap.size) clock (seen.push e.born) clock)).heap.size = wr.heap.size := by simp [ChangeMaps.setBlock, hw1h]
          have hgx : wr.grownBy (ChangeMaps.setBlock w1 w4.heap.size (.mapIter (some w3.heap.size) clock (seen.push e.born) clock)) (some w4.heap.size) := by
            refine ⟨?_, ?_, ?_, Nat.le_of_eq hsx.symm, fun i _ hi => ?_⟩
            · rcases hw1 with rfl | rfl <;> rfl
            · rcases hw1 with rfl | rfl <;> rfl
            · rcases hw1 with rfl | rfl <;> rfl
            · exact (hset.2 i (fun e => hi (by rw [e]))).trans (by rw [hw1h])
          have hIx := hset.1
          generalize ChangeMaps.setBlock w1 w4.heap.size (.mapIter (some w3.heap.size) clock (seen.push e.born) clock) = w7 at hnx hen hBx hsx hgx hIx
          unfold kv at hnx hen
          have HBx := hidJ hBx
          have HGx := hidJ hgx
          have HIx := hidJ hIx
          have HE7 := hidJ he
          clear hset hI1 hm1 hw1 hw1h hI7 hem hes hk1 hv1 hBx hgx hIx he
          obtain ⟨i81, hi, hz0, hz1, hz2⟩ := info_parts Try.info81J
          have hLs : L.length ≤ 1000 := by
            have h1 := jseen_len HJ.out HS.out
            simp only [keysJ, List.length_map] at h1
            omega
          have HO8 : Hid (∀ o1 o2 : Obj, ((w7.alloc o1).alloc o2).ownsRow (w4.heap.size + 1) 81 3 u7 L.length (rowV (L.map decJ))) := hidJ fun o1 o2 => ((HO.out.kept HGx.out (by
            cases hb : u7.ownBlock with
            | none => exact .inl rfl
            | some g =>
              refine .inr fun e => ?_
              have := (HO.out.lt g hb).1
              simp only [Option.some.injEq] at e
              omega)).alloc o1).alloc o2
          have hcl : ∀ (o1 : Obj) (j : Nat) (u : Value), [Value.int .i64 q.1, .int .i64 q.2, .int .i64 ((keysJ D es).count q : Int)][j]? = some u → ((w7.alloc o1).alloc (.cells #[.int .i64 q.1, .int .i64 q.2, .int .i64 ((keysJ D es).count q : Int)] 81)).cell? ((⟨wr.heap.size + 1, 0, none⟩ : Addr).add j) = some u := fun o1 j u hj => by
            rw [addr_add, Nat.zero_add]
            have h0 : (w7.alloc o1).heap.size = wr.heap.size + 1 := by show (w7.heap.push o1).size = _; rw [Array.size_push, hsx]
            rw [← h0]
            exact jcell (Below.refl _ _) (by simpa using hj)
          have HCL := hidJ hcl
          have hbs : w4.heap.size + 1 ≤ wr.heap.size := HBL.out.2
          clear hcl
          go_wp2_with (at_builtin; refine wpList_append_own _ rfl _ _ 44 rfl (w4.heap.size + 1) 81 i81 _ 3 24 Try.underlying44 hi hz0 hz1 hz2 rfl (by decide) _ L.length (rowV (L.map decJ)) rfl (HO8.out _ _) ⟨wr.heap.size + 1, 0, none⟩ 1 1 [.int .i64 q.1, .int .i64 q.2, .int .i64 ((keysJ D es).count q : Int)] rfl rfl ?c1 ?c2 ?c3 ?c4 ?c5 ?_)
          case c1 => exact HCL.out _
          case c2 =>
            intro u hu
            simp only [List.mem_cons, List.not_mem_nil, or_false] at hu
            rcases hu with rfl | rfl | rfl <;> rfl
          case c3 => simp only [maxLen]; omega
          case c4 => omega
          case c5 => show w4.heap.size + 1 ≤ ((w7.heap.push _).push _).size; simp only [Array.size_push, hsx]; omega
          intro v' w' hown' hg' hnil'
          have HOW := hidJ hown'
          have HGW := hidJ hg'
          clear hown' hg' hnil'
          go_wp2
          have hn2 : wr.heap.size + 2 = ((w7.alloc (.cells #[.int .i64 q.1, .int .i64 q.2] 69)).alloc (.cells #[.int .i64 q.1, .int .i64 q.2, .int .i64 ((keysJ D es).count q : Int)] 81)).heap.size := by
            show _ = ((w7.heap.push _).push _).size
            simp only [Array.size_push, hsx]
          have hrow : ∀ i, i ≤ w4.heap.size → some i ≠ u7.ownBlock := fun i hi e => by
            have := (HO.out.lt i e.symm).1
            omega
          have hB9 : Below w4.heap.size w4 w' := by
            refine ((HBx.out.alloc (by omega) _).alloc (by show w4.heap.size ≤ (w7.heap.push _).size; simp only [Array.size_push, hsx]; omega) _).grown HGW.out (by omega) fun i hi => ?_
            have := (HO.out.lt i hi).1
            omega
          have hIx9 : w'.heap[w4.heap.size]? = some (.mapIter (some w3.heap.size) clock (seen.push e.born) clock) := by
            rw [HGW.out.block _ (by omega) (hrow _ (Nat.le_refl _)), Below.heap_alloc _ _ _ (by show w4.heap.size < (w7.heap.push _).size; simp only [Array.size_push, hsx]; omega), Below.heap_alloc _ _ _ (by omega)]
            exact HIx.out
          have hs9 : w4.heap.size < w'.heap.size := Nat.lt_of_lt_of_le (by omega) HGW.out.size
          have hm9 : w'.heap[w3.heap.size]? = some (.map me clock) := (hB9.block _ hlr).trans HM1.out
          have hrows : rowV ((L ++ [e]).map decJ) = rowV (L.map decJ) ++ [.int .i64 q.1, .int .i64 q.2, .int .i64 ((keysJ D es).count q : Int)] := by
            rw [List.map_append, rowV_app, List.map_cons, List.map_nil, hdec]; rfl
          refine ⟨⟨L ++ [e], seen.push e.born, hidJ ⟨hB9, hs9⟩, hidJ hIx9, hidJ (jseen_push HS.out HE7.out), hidJ ?_⟩, ?_⟩
          · rw [hrows, List.length_append]
            exact HOW.out
          · rw [jleft_eq hm9 hIx9, jleft_eq hm6 HI.out]
            exact left_shrinks _ _ _ HE7.out

set_option maxHeartbeats 1000000 in
set_option maxRecDepth 1000000 in
theorem Try.joint_none (g : Array Value) (w : World)
    (hV : ∀ w', Below w.heap.size w w' → Calls Try.prog 12 #[.agg g] w' fun e w'' => e = .returned (.bool false) ∧ Below w'.heap.size w' w'') (n : Int) (ea : Option Addr) (m c : Nat) (hg : g = #[.int .i64 n, .slice ea m c]) :
    Calls Try.prog 23 #[.agg g] w fun e w' => e = .returned (.slice none 0 0) ∧ Below w.heap.size w w' := by
  subst hg
  have HV := hidJ hV
  clear hV
  go_enter Try.func23, Try.ntmps23
  go_wp2_with fail
  refine (HV.out _ ((Below.refl w.heap.size w).alloc (Nat.le_refl _) _)).mono ?_
  rintro e w2 ⟨rfl, hb2⟩
  have HW2 := hidJ (((Below.refl w.heap.size w).alloc (Nat.le_refl _) _).trans (hb2.mono (jalloc_le w _)))
  clear hb2
  go_wp2
  go_ret
  exact ⟨rfl, HW2.out⟩
theorem Try.jointRow : JRow Try.prog 12 58 69 70 23 := fun n ea c es D R w h1 h2 h3 h4 h5 h6 h7 => Try.joint_row n ea c es D R w h1 h2 h3 h4 h5 h6 h7
theorem Try.jointNone : JNone Try.prog 12 23 := fun n ea m c w h => Try.joint_none _ w h n ea m c rfl
end Go.Proofs

namespace Go.Proofs
open Go.RowKit Go.Idl Go.Shelf

theorem Try.info3J : (Try.prog.info? 3).map (fun i => (i.zero, i.size, i.bytes)) = some (some (.int .i64 0), 1, 8) := by kernel_rfl
section
variable {P : Program} {t elem : TypeId} {e : Nat} {A : Option Addr} {n cap j : Nat}
theorem run_from (ht : P.underlying t = some (.slice elem)) (he : sizeIs P elem e) (hj : j ≤ n) (w : World) :
    (Instr.sliceAt t (.slice A n cap) (some (.int .i64 j)) none none).run P w = .ok (.slice (if cap = j then A else A.map (·.add (j * e))) (n - j) (cap - j)) w := by
  have hb : (Instr.sliceBounds true n cap (some (.int .i64 j)) none none).run P w = .ok (j, n, cap) w := by
    unfold Instr.sliceBounds
    simp [Go.Idl.run_sliceBound (P := P) (k := .i64) (z := (j : Int)) (n := j) (y := n) (by omega) (by simp) hj]
  simp only [Instr.sliceAt, Instr.slice, Sem.run_bind, run_underlying ht, Result.andThen_ok, hb, Go.Idl.run_sizeOf he, Sem.run_pure]
theorem run_upto (ht : P.underlying t = some (.slice elem)) (he : sizeIs P elem e) (hj : j ≤ cap) (w : World) :
    (Instr.sliceAt t (.slice A n cap) none (some (.int .i64 j)) none).run P w = .ok (.slice (if cap = 0 then A else A.map (·.add (0 * e))) j cap) w := by
  have hb : (Instr.sliceBounds true n cap none (some (.int .i64 j)) none).run P w = .ok (0, j, cap) w := by
    unfold Instr.sliceBounds
    simp [Go.Idl.run_sliceBound (P := P) (k := .i64) (z := (j : Int)) (n := j) (y := cap) (by omega) (by simp) hj]
  simp only [Instr.sliceAt, Instr.slice, Sem.run_bind, run_underlying ht, Result.andThen_ok, hb, Go.Idl.run_sizeOf he, Sem.run_pure, Nat.sub_zero]
end
theorem Try.size3K : (Try.prog.info? 3).map (·.size) = some 1 := by kernel_rfl
def rcls (i : Nat) : Cls := if i = 7 then .oth else .reg
theorem Try.reg9 {ops : Array Oper} {K : Act → World → Prop} {b : Act} {w1 w5 : World} {g j k : Nat} {cu : List Value} {x : Int}
    (I0 : IsOp ops 0 (some 38) (.move (.tmp 8))) (I1 : IsOp ops 1 (some 39) (.move (.tmp 7))) (I2 : IsOp ops 2 (some 40) (.move (.tmp 8))) (I3 : IsOp ops 3 (some 41) (.slice 27 (.tmp 39) (some (.tmp 40)) none none))
    (I4 : IsOp ops 4 (some 42) (.move (.tmp 7))) (I5 : IsOp ops 5 (some 43) (.move (.tmp 8))) (I6 : IsOp ops 6 (some 44) (.slice 27 (.tmp 42) none (some (.tmp 43)) none))
    (I7 : IsOp ops 7 (some 45) (.call { callee := .builtin .copy, args := #[.tmp 41, .tmp 44], argTypes := #[27, 27] })) (I8 : IsOp ops 8 (some 46) (.binOp .add 3 (.tmp 38) (.tmp 45) 3)) (I9 : IsOp ops 9 (some 8) (.assign (.tmp 46)))
    (hz : b.tmps.size = 48) (e7 : b.eval (.tmp 7) = .slice (some ⟨g, 0, none⟩) k k) (e8 : b.eval (.tmp 8) = .int .i64 j) (hjk : j < k) (hk : k ≤ 1000) (hg : w5.heap[g]? = some (.cells cu.toArray 3 (0, 0))) (hcu : cu.length = k) (htk : cu.take j = List.replicate j (.int .i64 x))
    (hB : Below w1.heap.size w1 w5) (hgB : w1.heap.size ≤ g)
    (hend : ∀ (w' : World) (cu' : List Value), Below w1.heap.size w1 w' → w'.heap[g]? = some (.cells cu'.toArray 3 (0, 0)) → cu'.length = k → cu'.take (j + min j (k - j)) = List.replicate (j + min j (k - j)) (.int .i64 x) →
      ∀ u38 u39 u40 u41 u42 u43 u44 u45 u46 : Value, K ((((((((((b.put (some 38) u38).put (some 39) u39).put (some 40) u40).put (some 41) u41).put (some 42) u42).put (some 43) u43).put (some 44) u44).put (some 45) u45).put (some 46) u46).put (some 8) (.int .i64 ((j : Int) + (min j (k - j) : Nat)))) w') :
    ∀ τ ∈ [List.range 10], wpY Try.prog ops rcls K τ b w5 := by
  obtain ⟨o0, ho0, hg0, hd0, hop0⟩ := I0
  obtain ⟨o1, ho1, hg1, hd1, hop1⟩ := I1
  obtain ⟨o2, ho2, hg2, hd2, hop2⟩ := I2
  obtain ⟨o3, ho3, hg3, hd3, hop3⟩ := I3
  obtain ⟨o4, ho4, hg4, hd4, hop4⟩ := I4
  obtain ⟨o5, ho5, hg5, hd5, hop5⟩ := I5
  obtain ⟨o6, ho6, hg6, hd6, hop6⟩ := I6
  obtain ⟨o7, ho7, hg7, hd7, hop7⟩ := I7
  obtain ⟨o8, ho8, hg8, hd8, hop8⟩ := I8
  obtain ⟨o9, ho9, hg9, hd9, hop9⟩ := I9
  intro τ hτ
  simp only [List.mem_cons, List.not_mem_nil, or_false] at hτ
  subst hτ
  change wpY _ _ _ _ [0, 1, 2, 3, 4, 5, 6, 7, 8, 9] _ _
  have hwr : IntKind.i64.wrap ((j : Int) + (min j (k - j) : Nat)) = (j : Int) + (min j (k - j) : Nat) := wrapJ (by omega)
  refine yMv (.tmp 8) (.int .i64 j) ho0 rfl hg0 hd0 hop0 e8 ?_
  refine yMv (.tmp 7) (.slice (some ⟨g, 0, none⟩) k k) ho1 rfl hg1 hd1 hop1 (by simp [ePut, e7]) ?_
  refine yMv (.tmp 8) (.int .i64 j) ho2 rfl hg2 hd2 hop2 (by simp [ePut, e8]) ?_
  refine yReg (.slice (some ⟨g, j, none⟩) (k - j) (k - j)) ho3 rfl hg3 hd3 (fun w => ?_) ?_
  · have := run_from (A := some ⟨g, 0, none⟩) (n := k) (cap := k) (j := j) Try.underlying27 Try.size3J (Nat.le_of_lt hjk) w
    have hne : k ≠ j := by omega
    simp [execOp, hop3, ePut, ePuts, zPut, hz, this, hne, addr_add]
  refine yMv (.tmp 7) (.slice (some ⟨g, 0, none⟩) k k) ho4 rfl hg4 hd4 hop4 (by simp [ePut, e7]) ?_
  refine yMv (.tmp 8) (.int .i64 j) ho5 rfl hg5 hd5 hop5 (by simp [ePut, e8]) ?_
  refine yReg (.slice (some ⟨g, 0, none⟩) j k) ho6 rfl hg6 hd6 (fun w => ?_) ?_
  · have := run_upto (A := some ⟨g, 0, none⟩) (n := k) (cap := k) (j := j) Try.underlying27 Try.size3J (Nat.le_of_lt hjk) w
    have hne : k ≠ 0 := by omega
    simp [execOp, hop6, ePut, ePuts, zPut, hz, this, hne, addr_add]
  have hcs : ∀ i (v : Value), (List.replicate (min j (k - j)) (Value.int .i64 x))[i]? = some v → w5.cell? ((⟨g, 0, none⟩ : Addr).add i) = some v := fun i v hi => by
    have hil : i < min j (k - j) := by simpa using (List.getElem?_eq_some_iff.1 hi).1
    have hv : v = .int .i64 x := by
      rw [List.getElem?_replicate, if_pos hil] at hi; exact (Option.some.inj hi).symm
    rw [addr_add, Nat.zero_add, cell_of hg, hv]
    have h1 : (cu.take j)[i]? = some (.int .i64 x) := by rw [htk, List.getElem?_replicate, if_pos (by omega)]
    rw [List.getElem?_take_of_lt (by omega)] at h1
    simpa using h1
  have hrun := run_copy_row (P := Try.prog) w5 27 27 o7.type 3 g j (k - j) (k - j) ⟨g, 0, none⟩ j k cu.toArray 3 (List.replicate (min j (k - j)) (.int .i64 x)) Try.underlying27 (by kernel_rfl) hg (by simp) hcs (by simp; omega)
    (fun v hv => by rw [(List.mem_replicate.1 hv).2]; rfl)
  rw [List.length_replicate] at hrun
  refine yVal (v := goInt (min j (k - j) : Nat)) (w' := w5.setRow g (cu.take j ++ List.replicate (min j (k - j)) (Value.int .i64 x) ++ cu.drop (j + min j (k - j))).toArray) ho7 rfl hg7 hd7 ?_ ?_
  · simp [execOp, hop7, resolve, invoke, builtin, ePut, ePuts, zPut, hz, hrun, Result.andThen]
  refine yAdd (j : Int) (min j (k - j) : Nat) (.tmp 38) (.tmp 45) ho8 rfl hg8 hd8 hop8 (by simp [ePut, ePuts, zPut, hz]) (by simp [ePuts, zPut, hz, goInt]) hwr ?_
  refine yReg (.int .i64 ((j : Int) + (min j (k - j) : Nat))) ho9 rfl hg9 hd9 (fun w => by simp [execOp, hop9, ePuts, zPut, hz]) ?_
  refine hend _ (cu.take j ++ List.replicate (min j (k - j)) (Value.int .i64 x) ++ cu.drop (j + min j (k - j))) (below_setRow hB hgB _) (setRow_heap _ _ _ _ _ _ hg) ?_ ?_ _ _ _ _ _ _ _ _ _
  · simp only [List.length_append, List.length_take, List.length_drop, List.length_replicate, hcu]; omega
  · rw [htk, List.replicate_append_replicate, List.take_left' (by simp)]
def Try.mulRen : Go.Shelf.Ren := ⟨fun | 212 => 107 | 263 => 124 | 264 => 125 | n => n, fun | 46 => 109 | 51 => 125 | 53 => 127 | 146 => 128 | 148 => 130 | n => n, fun | n => n⟩
theorem Try.mulLays : Go.Proofs.Lays.n212 Try.prog Try.mulRen := {
  mixed := by kernel_rfl
  f212 := Try.func107.trans (congrArg some (by kernel_rfl))
  f263 := Try.func124.trans (congrArg some (by kernel_rfl))
  f264 := Try.func125.trans (congrArg some (by kernel_rfl))
  t46 := Try.underlying109
  a46 := Try.isAgg109
  z46 := Try.sizeOf109
  v46 := Try.zeroValue109
  t51 := Try.underlying125
  a51 := Try.isAgg125
  z51 := Try.sizeOf125
  v51 := Try.zeroValue125
  t53 := Try.underlying127
  a53 := Try.isAgg127
  z53 := Try.sizeOf127
  v53 := Try.zeroValue127
  t146 := Try.underlying128
  a146 := Try.isAgg128
  z146 := Try.sizeOf128
  v146 := Try.zeroValue128
  t148 := Try.underlying130
  a148 := Try.isAgg130
  z148 := Try.sizeOf130
  v148 := Try.zeroValue130 }
theorem Try.mulJ (k : Nat) (hk : k ≤ 1000) (w : World) : Calls Try.prog 107 #[.int .u64 1, .int .u64 k] w fun e w' => e = .returned (.tuple #[.int .u64 0, .int .u64 k]) ∧ w' = w := by
  refine (Any.bits_Mul (ρ := Try.mulRen) Try.mulLays 1 k (by omega) (by omega) w).mono ?_
  rintro e w' ⟨rfl, rfl⟩
  have h1 : 1 * k / 18446744073709551616 = 0 := by omega
  have h2 : 1 * k % 18446744073709551616 = k := by omega
  rw [h1, h2]
  exact ⟨rfl, rfl⟩
set_option maxHeartbeats 1000000 in
set_option maxRecDepth 1000000 in
theorem Try.repeatJ (b o c : Nat) (x : Int) (k : Nat) (hk : k ≤ 1000) (w : World) (hb : b < w.heap.size) (hx : w.cell? ⟨b, o, none⟩ = some (.int .i64 x)) :
    Calls Try.prog 77 #[.slice (some ⟨b, o, none⟩) 1 c, .int .i64 k] w fun e w' => Below w.heap.size w w' ∧ ∃ cur : List Value, e = .returned (.slice (some ⟨w.heap.size, 0, none⟩) k k) ∧ w'.heap[w.heap.size]? = some (.cells cur.toArray 3 (0, 0)) ∧ cur.length = k ∧ cur.take k = List.replicate k (.int .i64 x) := by
  go_enter Try.func77, Try.ntmps77
  go_wp2_with fail
  refine (Try.mulJ k hk w).mono ?_
  rintro e w1 ⟨rfl, hw1⟩
  subst hw1
  have hk64 : ¬ ((9223372036854775807 : Int) < (k : Int)) := by omega
  have hwr : IntKind.i64.wrap (k : Int) = k := wrapJ (by omega)
  obtain ⟨i3, hi, hz0, hz1, hz2⟩ := info_parts Try.info3J
  go_wp2_with (at_make; refine wpList_make_full _ rfl _ _ 27 rfl w1.heap.size 3 i3 _ 1 Try.underlying27 hi hz0 hz1 .i64 .i64 _ _ k rfl rfl ?c0 ?c1 ?c2 ?c3 (Nat.le_refl _) ?_)
  case c0 => rfl
  case c1 => rfl
  case c2 => rw [hz2]; omega
  case c3 => simp only [maxLen]; omega
  intro w2 hown hgr
  obtain ⟨cu0, hcu0, hl0, hB2⟩ : ∃ cu0 : List Value, w2.heap[w1.heap.size]? = some (.cells cu0.toArray 3 (0, 0)) ∧ cu0.length = k ∧ Below w1.heap.size w1 w2 := by
    obtain ⟨-, h | ⟨g, cp, cur, h1, h2, h3, h4, h5, h6, h7⟩⟩ := hown
    · exact absurd h.1 (by simp)
    · simp only [Value.slice.injEq, Option.some.injEq, Addr.mk.injEq, and_true, true_and] at h1
      obtain ⟨rfl, rfl⟩ := h1
      exact ⟨cur.toList, by simpa using h3, by simpa using h6, ⟨hgr.os, hgr.tape, hgr.output, hgr.size, fun i hi => hgr.block i hi (by simp)⟩⟩
  clear hown hgr
  have hx2 : w2.cell? ⟨b, o, none⟩ = some (.int .i64 x) := (hB2.cell (p := ⟨b, o, none⟩) hb).trans hx
  have hcs : ∀ i (v : Value), (List.replicate (min 1 k) (Value.int .i64 x))[i]? = some v → w2.cell? ((⟨b, o, none⟩ : Addr).add i) = some v := fun i v hi => by
    have hil : i < min 1 k := by simpa using (List.getElem?_eq_some_iff.1 hi).1
    have hv : v = .int .i64 x := by
      rw [List.getElem?_replicate, if_pos hil] at hi; exact (Option.some.inj hi).symm
    have h0 : i = 0 := by omega
    subst h0
    rw [hv]
    exact hx2
  have HX := hidJ (And.intro hcs (And.intro hcu0 hl0))
  have HB2 := hidJ hB2
  clear hcs hx2 hcu0 hl0 hi hz0 hz1 hz2 hB2
  have hfit : 0 + (List.replicate (min 1 k) (Value.int .i64 x)).length ≤ cu0.toArray.size := by
    have := HX.out.2.2
    simp only [List.length_replicate, List.size_toArray]
    omega
  have hone : ∀ v ∈ List.replicate (min 1 k) (Value.int .i64 x), v.oneCell' = true := fun v hv => by rw [(List.mem_replicate.1 hv).2]; rfl
  have hlen : (List.replicate (min 1 k) (Value.int .i64 x)).length = Nat.min 1 k := List.length_replicate
  obtain ⟨cs, hcse⟩ : ∃ cs, cs = List.replicate (min 1 k) (Value.int .i64 x) := ⟨_, rfl⟩
  rw [← hcse] at HX hfit hone hlen
  have HE := hidJ hcse
  have HF := hidJ (And.intro hfit (And.intro hone hlen))
  clear hcse hfit hone hlen
  go_wp2_with (refine wpList_copy_splice rfl (.tmp 31) (.tmp 32) 27 27 rfl 3 Try.underlying27 Try.size3K (some ⟨w1.heap.size, 0, none⟩) (some ⟨b, o, none⟩) k k 1 c rfl rfl w1.heap.size 0 cu0 3 HX.out.2.1 cs HF.out.2.2 (fun _ => ⟨rfl, _, rfl, HX.out.1⟩) (by have := HF.out.1; simpa using this) HF.out.2.1 w1.heap.size w1 HB2.out (Nat.le_refl _) ?_)
  intro w3 HG3 hB3
  have HB3 := hidJ hB3
  have hlc : cs.length = min 1 k := HF.out.2.2
  obtain ⟨m1, hm1⟩ : ∃ m1, m1 = min 1 k := ⟨_, rfl⟩
  rw [hlc, ← hm1]
  clear hlc
  have HM1 := hidJ hm1
  clear hm1
  go_wp2_with fail
  have hm1k : m1 ≤ k ∧ (0 < k → 0 < m1) := by have := HM1.out; omega
  have HL3 : Hid ((splice cu0 0 cs).length = k ∧ (splice cu0 0 cs).take m1 = List.replicate m1 (Value.int .i64 x)) := by
    have h1 := HF.out.1
    have h2 := HF.out.2.2
    have h3 : cs.length = m1 := by rw [HM1.out]; exact h2
    have h4 := HX.out.2.2
    refine hidJ ⟨?_, ?_⟩
    · rw [length_splice _ _ _ (by simpa using h1)]; exact h4
    · have h5 : cs = List.replicate m1 (Value.int .i64 x) := by rw [HM1.out]; exact HE.out
      rw [splice, List.take_zero, List.nil_append, List.take_left' h3, h5]
  go_loopw [8] (fun v wr => ∃ (j : Nat) (cu : List Value), v = .int .i64 j ∧ j ≤ k ∧ (0 < k → 0 < j) ∧ Hid (Below w1.heap.size w1 wr) ∧ Hid (wr.heap[w1.heap.size]? = some (.cells cu.toArray 3 (0, 0))) ∧ Hid (cu.length = k ∧ cu.take j = List.replicate j (Value.int .i64 x))) (fun v _ => k - (intOf v).toNat)
  case atStart => exact ⟨m1, _, rfl, hm1k.1, hm1k.2, HB3, HG3, HL3⟩
  case round =>
    obtain ⟨j, cu, rfl, hj, hj0, HB, HG, HL⟩ := hrel
    by_cases hjk : j < k
    · go_wp2_with fail
      refine wp_drawn (cls := rcls) (alts := []) (by kernel_rfl) (by kernel_rfl) (fun a w h => h) fun τ hτ => ?_
      change wpY _ _ _ _ τ _ (World.drewJ wr)
      refine Try.reg9 (w1 := w1) (w5 := World.drewJ wr) (g := w1.heap.size) (j := j) (k := k) (cu := cu) (x := x) ⟨_, rfl, rfl, rfl, rfl⟩ ⟨_, rfl, rfl, rfl, rfl⟩ ⟨_, rfl, rfl, rfl, rfl⟩ ⟨_, rfl, rfl, rfl, rfl⟩ ⟨_, rfl, rfl, rfl, rfl⟩ ⟨_, rfl, rfl, rfl, rfl⟩ ⟨_, rfl, rfl, rfl, rfl⟩ ⟨_, rfl, rfl, rfl, rfl⟩ ⟨_, rfl, rfl, rfl, rfl⟩ ⟨_, rfl, rfl, rfl, rfl⟩
        rfl rfl rfl hjk hk HG.out HL.out.1 HL.out.2 (drew_below HB.out) (Nat.le_refl _) (fun w' cu' hB' hg' hl' ht' u38 u39 u40 u41 u42 u43 u44 u45 u46 => ?_) τ hτ
      have HB' := hidJ hB'
      have HG' := hidJ hg'
      have HL' := hidJ (And.intro hl' ht')
      clear hB' hg' hl' ht' hτ
      simp only [Exit.inBlock, Exit.then, Act.put, List.setIfInBounds_toArray, List.set_cons_succ, List.set_cons_zero]
      go_wp2
      exact ⟨⟨j + min j (k - j), cu', by push_cast; rfl, by omega, by omega, HB', HG', HL'⟩, by simp [intOf]; omega⟩
    · have hjk' : j = k := by omega
      subst hjk'
      go_wp2
      go_ret
      exact ⟨HB.out, cu, rfl, HG.out, HL.out⟩
theorem Try.repeatRow : RRow Try.prog 77 := fun b o c x k hk w hb hx => Try.repeatJ b o c x k hk w hb hx
end Go.Proofs

