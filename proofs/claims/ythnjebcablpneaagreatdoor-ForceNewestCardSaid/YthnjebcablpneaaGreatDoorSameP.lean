/- Contracts: whether two positions are the same. -/
import Derived.Test.YthnjebcablpneaaGreatDoorSameD
set_option maxRecDepth 100000
namespace Go.Proofs.YthnjebcablpneaaGreatDoor
open Go.RowKit Go.Ev
theorem roll_dec (x y : Rl) : decide (x = y) = (decide (x.cell = y.cell) && (decide (x.sides = y.sides) && (decide (x.mover = y.mover) && (decide (x.next = y.next) && decide (x.sum = y.sum))))) := by
  obtain ⟨_, _, _, _, _⟩ := x
  obtain ⟨_, _, _, _, _⟩ := y
  simp [Bool.decide_and]
theorem sameP (A B C A' B' C' : Option Addr) (a c b d k e a' c' b' d' k' e' : Nat) (x y : PosD) (w : World) (hx : PosAt w A B C a b k x) (hy : PosAt w A' B' C' a' b' k' y) (hk : k ≤ 17592186044416) (hk' : k' ≤ 17592186044416) :
    Calls Tryz.prog 15 #[.agg #[.slice A a c, .slice B b d, .slice C k e, .int .i64 x.roll.cell, .int .i64 x.roll.sides, .int .i64 x.roll.mover, .int .i64 x.roll.next, .int .u64 x.roll.sum], .agg #[.slice A' a' c', .slice B' b' d', .slice C' k' e', .int .i64 y.roll.cell, .int .i64 y.roll.sides, .int .i64 y.roll.mover, .int .i64 y.roll.next, .int .u64 y.roll.sum]] w fun en w' => en = .returned (.bool (x.vars == y.vars && (x.gone == y.gone && (x.tips == y.tips && decide (x.roll = y.roll))))) ∧ Below w.heap.size w w' := by
  have HX := Lib.hid hx
  have HY := Lib.hid hy
  clear hx hy
  go_enter Tryz.func15, Tryz.ntmps15
  go_wp2_with fail
  have r0 := al_fst w (.cells #[.slice A a c, .slice B b d, .slice C k e, .int .i64 x.roll.cell, .int .i64 x.roll.sides, .int .i64 x.roll.mover, .int .i64 x.roll.next, .int .u64 x.roll.sum] 29) (.cells #[.slice A' a' c', .slice B' b' d', .slice C' k' e', .int .i64 y.roll.cell, .int .i64 y.roll.sides, .int .i64 y.roll.mover, .int .i64 y.roll.next, .int .u64 y.roll.sum] 29)
  have r1 := al_snd w (.cells #[.slice A a c, .slice B b d, .slice C k e, .int .i64 x.roll.cell, .int .i64 x.roll.sides, .int .i64 x.roll.mover, .int .i64 x.roll.next, .int .u64 x.roll.sum] 29) (.cells #[.slice A' a' c', .slice B' b' d', .slice C' k' e', .int .i64 y.roll.cell, .int .i64 y.roll.sides, .int .i64 y.roll.mover, .int .i64 y.roll.next, .int .u64 y.roll.sum] 29)
  have HB := Lib.hid (al_below w (.cells #[.slice A a c, .slice B b d, .slice C k e, .int .i64 x.roll.cell, .int .i64 x.roll.sides, .int .i64 x.roll.mover, .int .i64 x.roll.next, .int .u64 x.roll.sum] 29) (.cells #[.slice A' a' c', .slice B' b' d', .slice C' k' e', .int .i64 y.roll.cell, .int .i64 y.roll.sides, .int .i64 y.roll.mover, .int .i64 y.roll.next, .int .u64 y.roll.sum] 29))
  generalize (w.alloc (.cells #[.slice A a c, .slice B b d, .slice C k e, .int .i64 x.roll.cell, .int .i64 x.roll.sides, .int .i64 x.roll.mover, .int .i64 x.roll.next, .int .u64 x.roll.sum] 29)).alloc (.cells #[.slice A' a' c', .slice B' b' d', .slice C' k' e', .int .i64 y.roll.cell, .int .i64 y.roll.sides, .int .i64 y.roll.mover, .int .i64 y.roll.next, .int .u64 y.roll.sum] 29) = V at r0 r1 HB ⊢
  have x1 := blkC r0 1
  have x2 := blkC r0 2
  have x3 := blkC r0 3
  have x4 := blkC r0 4
  have x5 := blkC r0 5
  have x6 := blkC r0 6
  have x7 := blkC r0 7
  have y1 := blkC r1 1
  have y2 := blkC r1 2
  have y3 := blkC r1 3
  have y4 := blkC r1 4
  have y5 := blkC r1 5
  have y6 := blkC r1 6
  have y7 := blkC r1 7
  clear r0 r1
  refine (eqI A A' a a' c c' x.vars y.vars V (HX.out.below HB.out).vars (HY.out.below HB.out).vars).mono ?_
  rintro en w1 ⟨rfl, N, rfl⟩
  cases hv : (x.vars == y.vars)
  · go_wp2_with fail
    go_ret
    exact ⟨by rw [hv]; rfl, belowDrewN HB.out _⟩
  go_wp2_with fail
  refine (eqB B B' b b' d d' x.gone y.gone _ ((HX.out.below HB.out).gone.drewN N) ((HY.out.below HB.out).gone.drewN N)).mono ?_
  rintro en w1 ⟨rfl, N2, rfl⟩
  cases hg : (x.gone == y.gone)
  · go_wp2_with fail
    go_ret
    exact ⟨by rw [hv, hg]; rfl, belowDrewN HB.out _⟩
  go_wp2_with fail
  refine (eqD C C' k k' e e' x.tips y.tips _ ((HX.out.below HB.out).tips.drewN (N + N2)) ((HY.out.below HB.out).tips.drewN (N + N2)) HX.out.digs HY.out.digs (by omega) (by omega)).mono ?_
  rintro en w1 ⟨rfl, N3, rfl⟩
  cases ht : (x.tips == y.tips)
  · go_wp2_with fail
    go_ret
    exact ⟨by rw [hv, hg, ht]; rfl, belowDrewN HB.out _⟩
  go_wp2_with fail
  all_goals go_ret
  all_goals refine ⟨?_, belowDrewN HB.out _⟩
  all_goals rw [hv, hg, ht, roll_dec]
  all_goals simp [*]
end Go.Proofs.YthnjebcablpneaaGreatDoor
