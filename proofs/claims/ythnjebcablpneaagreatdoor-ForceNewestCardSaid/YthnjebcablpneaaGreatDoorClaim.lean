/- Contracts of package force: Claim at any position. -/
import Derived.Test.YthnjebcablpneaaGreatDoorOpen
set_option maxRecDepth 100000
namespace Go.Proofs.YthnjebcablpneaaGreatDoor
open Go.RowKit Go.Ev
theorem three_stay {w w' : World} {a b c : Obj} (hb : Below (((w.alloc a).alloc b).alloc c).heap.size (((w.alloc a).alloc b).alloc c) w') : w'.heap[w.heap.size + 1 + 1]? = some c ∧ w'.heap[w.heap.size]? = some a ∧ w'.heap[w.heap.size + 1]? = some b ∧ Hid (Below w.heap.size w w') := by
  have h2 := alloc2_size w a b
  have hz : (((w.alloc a).alloc b).alloc c).heap.size = w.heap.size + 3 := by
    have : (((w.alloc a).alloc b).alloc c).heap.size = ((w.alloc a).alloc b).heap.size + 1 := Array.size_push _
    omega
  have hB := (alloc2_below w a b).alloc (by omega) c
  refine ⟨blk_below ?_ hb (by omega), blk_below ?_ hb (by omega), blk_below ?_ hb (by omega), hB.trans (hb.mono (by omega))⟩
  · have := heap_alloc_new ((w.alloc a).alloc b) c
    rw [h2] at this
    exact this
  · have hb2 : Below ((w.alloc a).alloc b).heap.size ((w.alloc a).alloc b) (((w.alloc a).alloc b).alloc c) := (Below.refl _ _).alloc (Nat.le_refl _) _
    exact blk_below (alloc2_fst w a b) hb2 (by omega)
  · have hb2 : Below ((w.alloc a).alloc b).heap.size ((w.alloc a).alloc b) (((w.alloc a).alloc b).alloc c) := (Below.refl _ _).alloc (Nat.le_refl _) _
    exact blk_below (alloc2_get w a b) hb2 (by omega)
theorem claimB (A B C : Option Addr) (a c b d k e : Nat) (x : PosD) (q0 : Int) (q1 q2 q3 q4 q5 q6 q7 q8 q9 q10 : Value) (n ht v : Int) (w : World) (hc : withinC n ht v = 2) :
    Calls Tryz.prog 12 #[.agg #[.int .i64 q0, q1, q2, q3, q4, q5, q6, q7, q8, q9, q10], .int .i64 n, .agg #[.slice A a c, .slice B b d, .slice C k e, .int .i64 x.roll.cell, .int .i64 x.roll.sides, .int .i64 x.roll.mover, .int .i64 x.roll.next, .int .u64 x.roll.sum], .int .i64 ht, .int .i64 v] w fun en w' => en = .returned (.tuple #[.agg #[.int .i64 0, .int .i64 0, .slice none 0 0, .slice none 0 0, .slice none 0 0, .int .i64 0, .int .i64 0, .int .i64 0, .int .i64 0, .int .u64 0, .int .i64 0], .int .i64 2]) ∧ Below w.heap.size w w' := by
  have HC := Lib.hid hc
  clear hc
  go_enter Tryz.func12, Tryz.ntmps12
  go_wp2_with fail
  refine (within n ht v _).mono ?_
  rintro en w' ⟨rfl, hb⟩
  rw [HC.out]
  obtain ⟨rr1, rr0, -, HB⟩ := three_stay hb
  have cc0 := blk_cell rr1 0
  have f0 := blk_frozen rr1 0
  have cc1 := blk_cell rr1 1
  have f1 := blk_frozen rr1 1
  have cc2 := blk_cell rr1 2
  have f2 := blk_frozen rr1 2
  have cc3 := blk_cell rr1 3
  have f3 := blk_frozen rr1 3
  have cc4 := blk_cell rr1 4
  have f4 := blk_frozen rr1 4
  have cc5 := blk_cell rr1 5
  have f5 := blk_frozen rr1 5
  have cc6 := blk_cell rr1 6
  have f6 := blk_frozen rr1 6
  have cc7 := blk_cell rr1 7
  have f7 := blk_frozen rr1 7
  have cc8 := blk_cell rr1 8
  have f8 := blk_frozen rr1 8
  have cc9 := blk_cell rr1 9
  have f9 := blk_frozen rr1 9
  have cc10 := blk_cell rr1 10
  have f10 := blk_frozen rr1 10
  clear hb rr1 rr0
  have hg : w.heap.size ≤ w.heap.size + 1 + 1 := by omega
  go_wp2_with fail
  exact bodyPost_ret (v := .tuple #[.agg #[.int .i64 0, .int .i64 0, .slice none 0 0, .slice none 0 0, .slice none 0 0, .int .i64 0, .int .i64 0, .int .i64 0, .int .i64 0, .int .u64 0, .int .i64 0], .int .i64 2]) (by simp [results, Tryz.results12, go_sem, cc0, f0, cc1, f1, cc2, f2, cc3, f3, cc4, f4, cc5, f5, cc6, f6, cc7, f7, cc8, f8, cc9, f9, cc10, f10]) rfl ⟨rfl, (((((((((((HB.out).setCell hg _).setCell hg _).setCell hg _).setCell hg _).setCell hg _).setCell hg _).setCell hg _).setCell hg _).setCell hg _).setCell hg _).setCell hg _⟩
theorem claimOld (A B C : Option Addr) (a c b d k e : Nat) (x : PosD) (q0 : Int) (q1 q2 q3 q4 q5 q6 q7 q8 q9 q10 : Value) (n ht v : Int) (w : World) (hc : withinC n ht v = 0) (hq : n ≤ q0) :
    Calls Tryz.prog 12 #[.agg #[.int .i64 q0, q1, q2, q3, q4, q5, q6, q7, q8, q9, q10], .int .i64 n, .agg #[.slice A a c, .slice B b d, .slice C k e, .int .i64 x.roll.cell, .int .i64 x.roll.sides, .int .i64 x.roll.mover, .int .i64 x.roll.next, .int .u64 x.roll.sum], .int .i64 ht, .int .i64 v] w fun en w' => en = .returned (.tuple #[.agg #[.int .i64 0, .int .i64 0, .slice none 0 0, .slice none 0 0, .slice none 0 0, .int .i64 0, .int .i64 0, .int .i64 0, .int .i64 0, .int .u64 0, .int .i64 0], .int .i64 18]) ∧ Below w.heap.size w w' := by
  have HC := Lib.hid hc
  clear hc
  go_enter Tryz.func12, Tryz.ntmps12
  go_wp2_with fail
  refine (within n ht v _).mono ?_
  rintro en w' ⟨rfl, hb⟩
  rw [HC.out]
  obtain ⟨rr1, rr0, -, HB⟩ := three_stay hb
  have b0 := blk_cell rr0 0
  have cc0 := blk_cell rr1 0
  have f0 := blk_frozen rr1 0
  have cc1 := blk_cell rr1 1
  have f1 := blk_frozen rr1 1
  have cc2 := blk_cell rr1 2
  have f2 := blk_frozen rr1 2
  have cc3 := blk_cell rr1 3
  have f3 := blk_frozen rr1 3
  have cc4 := blk_cell rr1 4
  have f4 := blk_frozen rr1 4
  have cc5 := blk_cell rr1 5
  have f5 := blk_frozen rr1 5
  have cc6 := blk_cell rr1 6
  have f6 := blk_frozen rr1 6
  have cc7 := blk_cell rr1 7
  have f7 := blk_frozen rr1 7
  have cc8 := blk_cell rr1 8
  have f8 := blk_frozen rr1 8
  have cc9 := blk_cell rr1 9
  have f9 := blk_frozen rr1 9
  have cc10 := blk_cell rr1 10
  have f10 := blk_frozen rr1 10
  clear hb rr1 rr0
  have hg : w.heap.size ≤ w.heap.size + 1 + 1 := by omega
  go_wp2_with fail
  exact bodyPost_ret (v := .tuple #[.agg #[.int .i64 0, .int .i64 0, .slice none 0 0, .slice none 0 0, .slice none 0 0, .int .i64 0, .int .i64 0, .int .i64 0, .int .i64 0, .int .u64 0, .int .i64 0], .int .i64 18]) (by simp [results, Tryz.results12, go_sem, cc0, f0, cc1, f1, cc2, f2, cc3, f3, cc4, f4, cc5, f5, cc6, f6, cc7, f7, cc8, f8, cc9, f9, cc10, f10]) rfl ⟨rfl, (((((((((((HB.out).setCell hg _).setCell hg _).setCell hg _).setCell hg _).setCell hg _).setCell hg _).setCell hg _).setCell hg _).setCell hg _).setCell hg _).setCell hg _⟩
theorem claimG (A B C : Option Addr) (a c b d k e : Nat) (x : PosD) (q0 : Int) (q1 q2 q3 q4 q5 q6 q7 q8 q9 q10 : Value) (n ht v : Int) (w : World) (hc : withinC n ht v = 0) (hq : ¬ n ≤ q0) (hp : PosAt w A B C a b k x) (hA : A = none → c = 0) (hB : B = none → d = 0) (hC : C = none → e = 0) (hn : a ≤ 17592186044416) (hm : b ≤ 17592186044416) (hk : k ≤ 17592186044416) :
    Calls Tryz.prog 12 #[.agg #[.int .i64 q0, q1, q2, q3, q4, q5, q6, q7, q8, q9, q10], .int .i64 n, .agg #[.slice A a c, .slice B b d, .slice C k e, .int .i64 x.roll.cell, .int .i64 x.roll.sides, .int .i64 x.roll.mover, .int .i64 x.roll.next, .int .u64 x.roll.sum], .int .i64 ht, .int .i64 v] w fun en w' => ∃ A' B' C' c' d' e', en = .returned (.tuple #[.agg #[.int .i64 n, .int .i64 n, .slice A' a c', .slice B' b d', .slice C' k e', .int .i64 x.roll.cell, .int .i64 x.roll.sides, .int .i64 x.roll.mover, .int .i64 x.roll.next, .int .u64 x.roll.sum, .int .i64 (ht + v)], .int .i64 0]) ∧ PosOwn w.heap.size w' A' B' C' a c' b d' k e' x ∧ Below w.heap.size w w' := by
  have HC := Lib.hid hc
  have HP := Lib.hid hp
  clear hc hp
  go_enter Tryz.func12, Tryz.ntmps12
  go_wp2_with fail
  refine (within n ht v _).mono ?_
  rintro en w' ⟨rfl, hb⟩
  rw [HC.out]
  obtain ⟨rr1', rr0, rrp, HB⟩ := three_stay hb
  have b0 := blk_cell rr0 0
  have R1 := Lib.hid rr1'
  have p0 := blk_cell rrp 0
  have p1 := blk_cell rrp 1
  have p2 := blk_cell rrp 2
  have p3 := blk_cell rrp 3
  have p4 := blk_cell rrp 4
  have p5 := blk_cell rrp 5
  have p6 := blk_cell rrp 6
  have p7 := blk_cell rrp 7
  clear hb rr1' rr0 rrp
  go_wp2_with fail
  refine (openG A B C a c b d k e x n ht v _ (HP.out.below HB.out) hA hB hC hn hm hk HC.out).mono ?_
  rintro en w2 ⟨A', B', C', c', d', e', rfl, how, hb2⟩
  have HOW := Lib.hid how
  clear how
  have rr1 := blk_below R1.out hb2 (blk_lt R1.out)
  have HB2 : Hid (Below w.heap.size w w2) := HB.out.trans (hb2.mono HB.out.size)
  have cc0 := blk_cell rr1 0
  have f0 := blk_frozen rr1 0
  have cc1 := blk_cell rr1 1
  have f1 := blk_frozen rr1 1
  have cc2 := blk_cell rr1 2
  have f2 := blk_frozen rr1 2
  have cc3 := blk_cell rr1 3
  have f3 := blk_frozen rr1 3
  have cc4 := blk_cell rr1 4
  have f4 := blk_frozen rr1 4
  have cc5 := blk_cell rr1 5
  have f5 := blk_frozen rr1 5
  have cc6 := blk_cell rr1 6
  have f6 := blk_frozen rr1 6
  have cc7 := blk_cell rr1 7
  have f7 := blk_frozen rr1 7
  have cc8 := blk_cell rr1 8
  have f8 := blk_frozen rr1 8
  have cc9 := blk_cell rr1 9
  have f9 := blk_frozen rr1 9
  have cc10 := blk_cell rr1 10
  have f10 := blk_frozen rr1 10
  clear rr1 hb2 b0 p0 p1 p2 p3 p4 p5 p6 p7
  have hg : w.heap.size ≤ w.heap.size + 1 + 1 := by omega
  have hlt := blk_lt R1.out
  have HO := PosOwn.set11 (HOW.out.mono (Nat.le_refl _)) hlt
  go_wp2_with fail
  exact bodyPost_ret (v := .tuple #[.agg #[.int .i64 n, .int .i64 n, .slice A' a c', .slice B' b d', .slice C' k e', .int .i64 x.roll.cell, .int .i64 x.roll.sides, .int .i64 x.roll.mover, .int .i64 x.roll.next, .int .u64 x.roll.sum, .int .i64 (ht + v)], .int .i64 0]) (by simp [results, Tryz.results12, go_sem, cc0, f0, cc1, f1, cc2, f2, cc3, f3, cc4, f4, cc5, f5, cc6, f6, cc7, f7, cc8, f8, cc9, f9, cc10, f10]) rfl ⟨A', B', C', c', d', e', rfl, (HO _ _ _ _ _ _ _ _ _ _ _).mono HB.out.size, (((((((((((HB2.out).setCell hg _).setCell hg _).setCell hg _).setCell hg _).setCell hg _).setCell hg _).setCell hg _).setCell hg _).setCell hg _).setCell hg _).setCell hg _⟩
end Go.Proofs.YthnjebcablpneaaGreatDoor
