/- Contracts of package force: Open at the empty position; what is done without rules. -/
import Derived.Test.YthnjebcablpneaaGreatDoorForce
import Derived.Test.YthnjebcablpneaaGreatDoorEnv
import Derived.Test.YthnjebcablpneaaGreatDoorEvU
set_option maxRecDepth 100000
namespace Go.Proofs.YthnjebcablpneaaGreatDoor
open Go.RowKit Go.Ev

theorem laid_none (w : World) : LaidIn [] w := fun _ _ _ _ h => by cases h
theorem clone0 (w : World) : Calls Tryz.prog 7 #[.agg #[.slice none 0 0, .slice none 0 0, .slice none 0 0, .int .i64 0, .int .i64 0, .int .i64 0, .int .i64 0, .int .u64 0]] w fun e w' => e = .returned (.agg #[.slice none 0 0, .slice none 0 0, .slice none 0 0, .int .i64 0, .int .i64 0, .int .i64 0, .int .i64 0, .int .u64 0]) ∧ Below w.heap.size w w' :=
  plain_calls envOK hookAll_nil (fn := Tryz.f7) (n := 300) (ng := 12) (G := []) (by kernel_rfl) rfl (by kernel_rfl) rfl rfl (by kernel_rfl) (by kernel_rfl) (by kernel_rfl) (laid_none w)
theorem act0 (w : World) : Calls Tryz.prog 16 #[.pointer none, .agg #[.int .i64 0, .int .i64 0, .slice none 0 0, .slice none 0 0, .slice none 0 0, .int .i64 0, .int .i64 0, .int .i64 0, .int .i64 0, .int .u64 0, .int .i64 0], .int .i64 0, .agg #[.bool false, .slice none 0 0, .int .u8 0, .int .u8 0, .int .u8 0, .int .u8 0, .int .u8 0, .int .u8 0, .int .u8 0, .int .u8 0], .int .i64 5, .int .i64 1] w fun e w' => e = .returned (.tuple #[.agg #[.int .i64 0, .int .i64 0, .slice none 0 0, .slice none 0 0, .slice none 0 0, .int .i64 0, .int .i64 0, .int .i64 0, .int .i64 0, .int .u64 0, .int .i64 0], .int .i64 1]) ∧ Below w.heap.size w w' :=
  plain_calls envOK hookAll_nil (fn := Tryz.f16) (n := 300) (ng := 12) (G := []) (by kernel_rfl) rfl (by kernel_rfl) rfl rfl (by kernel_rfl) (by kernel_rfl) (by kernel_rfl) (laid_none w)
theorem late0 (w : World) : Calls Tryz.prog 17 #[.pointer none, .agg #[.int .i64 0, .int .i64 0, .slice none 0 0, .slice none 0 0, .slice none 0 0, .int .i64 0, .int .i64 0, .int .i64 0, .int .i64 0, .int .u64 0, .int .i64 0], .int .i64 5, .int .i64 1] w fun e w' => e = .returned (.tuple #[.agg #[.int .i64 0, .int .i64 0, .slice none 0 0, .slice none 0 0, .slice none 0 0, .int .i64 0, .int .i64 0, .int .i64 0, .int .i64 0, .int .u64 0, .int .i64 0], .bool false, .int .i64 1]) ∧ Below w.heap.size w w' :=
  plain_calls envOK hookAll_nil (fn := Tryz.f17) (n := 300) (ng := 12) (G := []) (by kernel_rfl) rfl (by kernel_rfl) rfl rfl (by kernel_rfl) (by kernel_rfl) (by kernel_rfl) (laid_none w)
theorem idle0 (w : World) : Calls Tryz.prog 18 #[.pointer none, .agg #[.int .i64 0, .int .i64 0, .slice none 0 0, .slice none 0 0, .slice none 0 0, .int .i64 0, .int .i64 0, .int .i64 0, .int .i64 0, .int .u64 0, .int .i64 9]] w fun e w' => e = .returned (.tuple #[.int .i64 10, .int .i64 (-1)]) ∧ Below w.heap.size w w' :=
  plain_calls envOK hookAll_nil (fn := Tryz.f18) (n := 300) (ng := 12) (G := []) (by kernel_rfl) rfl (by kernel_rfl) rfl rfl (by kernel_rfl) (by kernel_rfl) (by kernel_rfl) (laid_none w)
theorem blk_lt {w : World} {g : Nat} {o : Obj} (h : w.heap[g]? = some o) : g < w.heap.size := by
  rcases Nat.lt_or_ge g w.heap.size with hlt | hge
  · exact hlt
  · rw [Array.getElem?_eq_none hge] at h; cases h
theorem blk_cell {w : World} {g : Nat} {t : TypeId} {cs : Array Value} (h : w.heap[g]? = some (.cells cs t (0, 0))) (i : Nat) : w.cell? ⟨g, i, none⟩ = cs[i]? := cell_of_row w g i cs t (0, 0) h
theorem blk_frozen {w : World} {g : Nat} {t : TypeId} {cs : Array Value} (h : w.heap[g]? = some (.cells cs t (0, 0))) (i : Nat) : w.frozen? ⟨g, i, none⟩ = false := frozen_of_row w g i cs t h
theorem blk_below {w w' : World} {g B : Nat} {o : Obj} (h : w.heap[g]? = some o) (hb : Below B w w') (hg : g < B) : w'.heap[g]? = some o := (hb.block g hg).trans h
theorem setRow_below {a w : World} {B g : Nat} {cs : Array Value} (h : Below B a w) (hg : B ≤ g) : Below B a (w.setRow g cs) :=
  h.trans ⟨rfl, rfl, rfl, by simp, fun k hk => by simp only [World.setRow]; rw [Array.getElem?_modify, if_neg (by omega)]⟩
theorem store_row {P : Program} {w : World} {g : Nat} {old cells : Array Value} {t : TypeId} (h : w.heap[g]? = some (.cells old t (0, 0))) (hi : (P.info? t).map (·.size) = some cells.size) (ho : old.size = cells.size) (h1 : cells.all (·.oneCell') = true) :
    (Instr.storeAt t (.pointer (some ⟨g, 0, none⟩)) (.agg cells)).run P w = .ok () (w.setRow g cells) := by
  simp only [Instr.storeAt, Instr.sureAddr, Sem.run_bind, Sem.run_pure, Result.andThen_ok, run_storeVar_row w g t t old cells h hi ho h1]
theorem load_row {P : Program} {w : World} {g : Nat} {cells : Array Value} {t : TypeId} (h : w.heap[g]? = some (.cells cells t (0, 0))) (hi : (P.info? t).map (·.size) = some cells.size) (ha : isAggA P t = some true) :
    (loadVar t ⟨g, 0, none⟩).run P w = .ok (.agg cells) w := by
  have hs : sizeA P t = some cells.size := by
    cases hq : P.info? t with
    | none => simp [hq] at hi
    | some i => simp [hq] at hi; exact sizeA_some.2 ⟨i, hq, hi⟩
  have := loadCells_at (P := P) (w := w) (b := g) (o := 0) (n := cells.size) (c' := cells) h (by omega)
  simp only [loadVar, Sem.run_bind, run_agg ha, Result.andThen_ok, if_true, run_size hs, this, Sem.run_pure]
  congr 2
  apply Array.toList_inj.1
  simp [List.take_of_length_le]
theorem loadAt_row {P : Program} {w : World} {g : Nat} {cells : Array Value} {t : TypeId} (h : w.heap[g]? = some (.cells cells t (0, 0))) (hi : (P.info? t).map (·.size) = some cells.size) (ha : isAggA P t = some true) :
    (Instr.loadAt t (.pointer (some ⟨g, 0, none⟩))).run P w = .ok (.agg cells) w := by
  simp only [Instr.loadAt, Instr.sureAddr, Sem.run_bind, Sem.run_pure, Result.andThen_ok, load_row h hi ha]
theorem alloc2_size (w : World) (a b : Obj) : ((w.alloc a).alloc b).heap.size = w.heap.size + 2 := by
  have : ((w.heap.push a).push b).size = w.heap.size + 2 := by rw [Array.size_push, Array.size_push]
  exact this
theorem alloc2_get (w : World) (a b : Obj) : ((w.alloc a).alloc b).heap[w.heap.size + 1]? = some b := by
  have : ((w.heap.push a).push b)[w.heap.size + 1]? = some b := by rw [Array.getElem?_push, if_pos (by rw [Array.size_push])]
  exact this
theorem alloc2_fst (w : World) (a b : Obj) : ((w.alloc a).alloc b).heap[w.heap.size]? = some a := by
  have : ((w.heap.push a).push b)[w.heap.size]? = some a := by rw [Array.getElem?_push, if_neg (by rw [Array.size_push]; omega), Array.getElem?_push, if_pos rfl]
  exact this
theorem alloc2_below (w : World) (a b : Obj) : Below w.heap.size w ((w.alloc a).alloc b) :=
  ((Below.refl _ w).alloc (Nat.le_refl _) _).alloc (by have : (w.heap.push a).size = w.heap.size + 1 := Array.size_push _; show w.heap.size ≤ (w.heap.push a).size; omega) _
/-- Behind a call: what two new blocks hold still. -/
theorem two_stay {w w' : World} {a b : Obj} (hb : Below ((w.alloc a).alloc b).heap.size ((w.alloc a).alloc b) w') : w'.heap[w.heap.size + 1]? = some b ∧ w'.heap[w.heap.size]? = some a ∧ Hid (Below w.heap.size w w') := by
  refine ⟨blk_below (alloc2_get w a b) hb (by rw [alloc2_size]; omega), blk_below (alloc2_fst w a b) hb (by rw [alloc2_size]; omega), (alloc2_below w a b).trans (hb.mono ?_)⟩
  rw [alloc2_size]; omega
theorem open_store {w : World} {g : Nat} {old cells : Array Value} (h : w.heap[g]? = some (.cells old 38 (0, 0))) (ho : old.size = 11) (hc : cells.size = 11) (h1 : cells.all (·.oneCell') = true) :
    (Instr.storeAt 38 (.pointer (some ⟨g, 0, none⟩)) (.agg cells)).run Tryz.prog w = .ok () (w.setRow g cells) ∧ (loadVar 38 ⟨g, 0, none⟩).run Tryz.prog (w.setRow g cells) = .ok (.agg cells) (w.setRow g cells) := by
  have hi : (Tryz.prog.info? 38).map (·.size) = some 11 := by kernel_rfl
  exact ⟨store_row h (by rw [hc]; exact hi) (by omega) h1, load_row (setRow_heap w g _ _ _ _ h) (by rw [hc]; exact hi) (by kernel_rfl)⟩
theorem open_bad (n h v : Int) (w : World) (hc : withinC n h v = 2) : Calls Tryz.prog 10 #[.int .i64 n, .agg #[.slice none 0 0, .slice none 0 0, .slice none 0 0, .int .i64 0, .int .i64 0, .int .i64 0, .int .i64 0, .int .u64 0], .int .i64 h, .int .i64 v] w fun e w' => e = .returned (.tuple #[.agg #[.int .i64 0, .int .i64 0, .slice none 0 0, .slice none 0 0, .slice none 0 0, .int .i64 0, .int .i64 0, .int .i64 0, .int .i64 0, .int .u64 0, .int .i64 0], .int .i64 2]) ∧ Below w.heap.size w w' := by
  have HC := Lib.hid hc
  clear hc
  go_enter Tryz.func10, Tryz.ntmps10
  go_wp2_with fail
  refine (within n h v _).mono ?_
  rintro e w' ⟨rfl, hb⟩
  rw [HC.out]
  obtain ⟨r1, _, HB⟩ := two_stay hb
  have c0 := blk_cell r1 0
  have f0 := blk_frozen r1 0
  have c1 := blk_cell r1 1
  have f1 := blk_frozen r1 1
  have c2 := blk_cell r1 2
  have f2 := blk_frozen r1 2
  have c3 := blk_cell r1 3
  have f3 := blk_frozen r1 3
  have c4 := blk_cell r1 4
  have f4 := blk_frozen r1 4
  have c5 := blk_cell r1 5
  have f5 := blk_frozen r1 5
  have c6 := blk_cell r1 6
  have f6 := blk_frozen r1 6
  have c7 := blk_cell r1 7
  have f7 := blk_frozen r1 7
  have c8 := blk_cell r1 8
  have f8 := blk_frozen r1 8
  have c9 := blk_cell r1 9
  have f9 := blk_frozen r1 9
  have c10 := blk_cell r1 10
  have f10 := blk_frozen r1 10
  clear hb r1
  have hg : w.heap.size ≤ w.heap.size + 1 := Nat.le_succ _
  go_wp2_with fail
  exact bodyPost_ret (v := .tuple #[.agg #[.int .i64 0, .int .i64 0, .slice none 0 0, .slice none 0 0, .slice none 0 0, .int .i64 0, .int .i64 0, .int .i64 0, .int .i64 0, .int .u64 0, .int .i64 0], .int .i64 2]) (by simp [results, Tryz.results10, go_sem, c0, f0, c1, f1, c2, f2, c3, f3, c4, f4, c5, f5, c6, f6, c7, f7, c8, f8, c9, f9, c10, f10]) rfl ⟨rfl, (((((((((((HB.out).setCell hg _).setCell hg _).setCell hg _).setCell hg _).setCell hg _).setCell hg _).setCell hg _).setCell hg _).setCell hg _).setCell hg _).setCell hg _⟩
theorem within_ok {n h v : Int} (hc : withinC n h v = 0) : (0 ≤ n ∧ n ≤ 1099511627776) ∧ (0 ≤ h ∧ h ≤ 1099511627776) ∧ 1 ≤ v ∧ v ≤ 1048576 := by
  unfold withinC at hc
  split at hc
  · assumption
  · cases hc
theorem open_good (n h v : Int) (w : World) (hc : withinC n h v = 0) : Calls Tryz.prog 10 #[.int .i64 n, .agg #[.slice none 0 0, .slice none 0 0, .slice none 0 0, .int .i64 0, .int .i64 0, .int .i64 0, .int .i64 0, .int .u64 0], .int .i64 h, .int .i64 v] w fun e w' => e = .returned (.tuple #[.agg #[.int .i64 n, .int .i64 n, .slice none 0 0, .slice none 0 0, .slice none 0 0, .int .i64 0, .int .i64 0, .int .i64 0, .int .i64 0, .int .u64 0, .int .i64 (h + v)], .int .i64 0]) ∧ Below w.heap.size w w' := by
  have hw : IntKind.i64.wrap (h + v) = h + v := by
    have := within_ok hc
    simp [IntKind.wrap, IntKind.bits, IntKind.signed]; omega
  have HC := Lib.hid hc
  clear hc
  go_enter Tryz.func10, Tryz.ntmps10
  go_wp2_with fail
  refine (within n h v _).mono ?_
  rintro e w' ⟨rfl, hb⟩
  rw [HC.out]
  obtain ⟨r1', r2, HB⟩ := two_stay hb
  have d0 := blk_cell r2 0
  have d1 := blk_cell r2 1
  have d2 := blk_cell r2 2
  have d3 := blk_cell r2 3
  have d4 := blk_cell r2 4
  have d5 := blk_cell r2 5
  have d6 := blk_cell r2 6
  have d7 := blk_cell r2 7
  have R1 := Lib.hid r1'
  have R2 := Lib.hid r2
  clear hb r1' r2
  go_wp2_with fail
  refine (clone0 _).mono ?_
  rintro e w2 ⟨rfl, hb2⟩
  have r1 := blk_below R1.out hb2 (blk_lt R1.out)
  have HB2 : Hid (Below w.heap.size w w2) := HB.out.trans (hb2.mono HB.out.size)
  have c0 := blk_cell r1 0
  have f0 := blk_frozen r1 0
  have c1 := blk_cell r1 1
  have f1 := blk_frozen r1 1
  have c2 := blk_cell r1 2
  have f2 := blk_frozen r1 2
  have c3 := blk_cell r1 3
  have f3 := blk_frozen r1 3
  have c4 := blk_cell r1 4
  have f4 := blk_frozen r1 4
  have c5 := blk_cell r1 5
  have f5 := blk_frozen r1 5
  have c6 := blk_cell r1 6
  have f6 := blk_frozen r1 6
  have c7 := blk_cell r1 7
  have f7 := blk_frozen r1 7
  have c8 := blk_cell r1 8
  have f8 := blk_frozen r1 8
  have c9 := blk_cell r1 9
  have f9 := blk_frozen r1 9
  have c10 := blk_cell r1 10
  have f10 := blk_frozen r1 10
  clear d0 d1 d2 d3 d4 d5 d6 d7 r1 hb2
  have hg : w.heap.size ≤ w.heap.size + 1 := Nat.le_succ _
  go_wp2_with fail
  exact bodyPost_ret (v := .tuple #[.agg #[.int .i64 n, .int .i64 n, .slice none 0 0, .slice none 0 0, .slice none 0 0, .int .i64 0, .int .i64 0, .int .i64 0, .int .i64 0, .int .u64 0, .int .i64 (h + v)], .int .i64 0]) (by simp [results, Tryz.results10, go_sem, c0, f0, c1, f1, c2, f2, c3, f3, c4, f4, c5, f5, c6, f6, c7, f7, c8, f8, c9, f9, c10, f10]) rfl ⟨rfl, (((((((((((HB2.out).setCell hg _).setCell hg _).setCell hg _).setCell hg _).setCell hg _).setCell hg _).setCell hg _).setCell hg _).setCell hg _).setCell hg _).setCell hg _⟩
end Go.Proofs.YthnjebcablpneaaGreatDoor
