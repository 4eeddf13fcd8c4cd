/- Contracts: sums, parts of fractions, which is less. -/
import Derived.Test.YtamjbnfmpfgjcaaGreatDoorFrac2
import Derived.IntWalk
set_option maxRecDepth 100000
namespace Go.Proofs.YtamjbnfmpfgjcaaGreatDoor
open Go.RowKit
theorem al3 (w : World) (a b c : Obj) : (((w.alloc a).alloc b).alloc c).heap[w.heap.size + 2]? = some c ∧ Below w.heap.size w (((w.alloc a).alloc b).alloc c) := by
  have hz := al_size w a b
  refine ⟨?_, (al_below w a b).trans ((Below.refl _ _).alloc (by rw [hz]; omega) _)⟩
  have := heap_alloc_new ((w.alloc a).alloc b) c
  rw [hz] at this
  exact this
theorem solveAdd (a b c d : Int) (w : World) (h1 : Big (a * d)) (h2 : Big (c * b)) (h3 : Big (a * d + c * b)) (h4 : Big (b * d)) (h5 : 0 < b * d) :
    Calls Tryz.prog 8 #[.agg #[.int .i64 a, .int .i64 b], .agg #[.int .i64 c, .int .i64 d]] w fun e w' => e = .returned (.agg #[.int .i64 (low (a * d + c * b) (b * d)), .int .i64 (lowD (a * d + c * b) (b * d))]) ∧ Below w.heap.size w w' := by
  have q1 := wrap_big h1
  have q2 := wrap_big h2
  have q3 := wrap_big h3
  have q4 := wrap_big h4
  have HC := Lib.hid (fun w => solveOf (a * d + c * b) (b * d) w h5 h3 h4)
  obtain ⟨hz, hb⟩ := al3 w (.cells #[.int .i64 a, .int .i64 b] 25) (.cells #[.int .i64 c, .int .i64 d] 25) (.cells #[.int .i64 0, .int .i64 0] 25)
  have HZ := Lib.hid hz
  have HB := Lib.hid hb
  clear h1 h2 h3 h4 h5 hz hb
  go_enter Tryz.func8, Tryz.ntmps8
  go_wp2_with fail
  refine (HC.out _).mono ?_
  rintro e w1 ⟨rfl, hb1⟩
  have hz := blk_below' HZ.out hb1
  have hb : Below w.heap.size w w1 := HB.out.trans (hb1.mono HB.out.size)
  clear hb1
  have c0 := blkC hz 0
  have c1 := blkC hz 1
  have f0 := blkF hz 0
  have f1 := blkF hz 1
  clear hz
  go_wp2
  exact bodyPost_ret (v := .agg #[.int .i64 (low (a * d + c * b) (b * d)), .int .i64 (lowD (a * d + c * b) (b * d))]) (by simp [results, Tryz.results8, go_sem, c0, c1, f0, f1]) rfl ⟨rfl, (hb.setCell (by simp <;> omega) _).setCell (by simp <;> omega) _⟩
theorem refAdd (a b c d : Int) (w : World) (h1 : Big (a * d)) (h2 : Big (c * b)) (h3 : Big (a * d + c * b)) (h4 : Big (b * d)) (h5 : 0 < b * d) :
    Calls Tryz.prog 11 #[.agg #[.int .i64 a, .int .i64 b], .agg #[.int .i64 c, .int .i64 d]] w fun e w' => e = .returned (.agg #[.int .i64 (low (a * d + c * b) (b * d)), .int .i64 (lowD (a * d + c * b) (b * d))]) ∧ Below w.heap.size w w' := by
  have q1 := wrap_big h1
  have q2 := wrap_big h2
  have q3 := wrap_big h3
  have q4 := wrap_big h4
  have HC := Lib.hid (fun w => refOf (a * d + c * b) (b * d) w h5 h3 h4)
  obtain ⟨hz, hb⟩ := al3 w (.cells #[.int .i64 a, .int .i64 b] 27) (.cells #[.int .i64 c, .int .i64 d] 27) (.cells #[.int .i64 0, .int .i64 0] 27)
  have HZ := Lib.hid hz
  have HB := Lib.hid hb
  clear h1 h2 h3 h4 h5 hz hb
  go_enter Tryz.func11, Tryz.ntmps11
  go_wp2_with fail
  refine (HC.out _).mono ?_
  rintro e w1 ⟨rfl, hb1⟩
  have hz := blk_below' HZ.out hb1
  have hb : Below w.heap.size w w1 := HB.out.trans (hb1.mono HB.out.size)
  clear hb1
  have c0 := blkC hz 0
  have c1 := blkC hz 1
  have f0 := blkF hz 0
  have f1 := blkF hz 1
  clear hz
  go_wp2
  exact bodyPost_ret (v := .agg #[.int .i64 (low (a * d + c * b) (b * d)), .int .i64 (lowD (a * d + c * b) (b * d))]) (by simp [results, Tryz.results11, go_sem, c0, c1, f0, f1]) rfl ⟨rfl, (hb.setCell (by simp <;> omega) _).setCell (by simp <;> omega) _⟩
theorem solvePart (a b k : Int) (w : World) (h3 : Big a) (h4 : Big (b * k)) (h5 : 0 < b * k) :
    Calls Tryz.prog 9 #[.agg #[.int .i64 a, .int .i64 b], .int .i64 k] w fun e w' => e = .returned (.agg #[.int .i64 (low a (b * k)), .int .i64 (lowD a (b * k))]) ∧ Below w.heap.size w w' := by
  have q4 := wrap_big h4
  have HC := Lib.hid (fun w => solveOf a (b * k) w h5 h3 h4)
  have hz := al_snd w (.cells #[.int .i64 a, .int .i64 b] 25) (.cells #[.int .i64 0, .int .i64 0] 25)
  have hb := al_below w (.cells #[.int .i64 a, .int .i64 b] 25) (.cells #[.int .i64 0, .int .i64 0] 25)
  have HZ := Lib.hid hz
  have HB := Lib.hid hb
  clear h3 h4 h5 hz hb
  go_enter Tryz.func9, Tryz.ntmps9
  go_wp2_with fail
  refine (HC.out _).mono ?_
  rintro e w1 ⟨rfl, hb1⟩
  have hz := blk_below' HZ.out hb1
  have hb : Below w.heap.size w w1 := HB.out.trans (hb1.mono HB.out.size)
  clear hb1
  have c0 := blkC hz 0
  have c1 := blkC hz 1
  have f0 := blkF hz 0
  have f1 := blkF hz 1
  clear hz
  go_wp2
  exact bodyPost_ret (v := .agg #[.int .i64 (low a (b * k)), .int .i64 (lowD a (b * k))]) (by simp [results, Tryz.results9, go_sem, c0, c1, f0, f1]) rfl ⟨rfl, (hb.setCell (by simp <;> omega) _).setCell (by simp <;> omega) _⟩
theorem refPart (a b k : Int) (w : World) (h3 : Big a) (h4 : Big (b * k)) (h5 : 0 < b * k) :
    Calls Tryz.prog 12 #[.agg #[.int .i64 a, .int .i64 b], .int .i64 k] w fun e w' => e = .returned (.agg #[.int .i64 (low a (b * k)), .int .i64 (lowD a (b * k))]) ∧ Below w.heap.size w w' := by
  have q4 := wrap_big h4
  have HC := Lib.hid (fun w => refOf a (b * k) w h5 h3 h4)
  have hz := al_snd w (.cells #[.int .i64 a, .int .i64 b] 27) (.cells #[.int .i64 0, .int .i64 0] 27)
  have hb := al_below w (.cells #[.int .i64 a, .int .i64 b] 27) (.cells #[.int .i64 0, .int .i64 0] 27)
  have HZ := Lib.hid hz
  have HB := Lib.hid hb
  clear h3 h4 h5 hz hb
  go_enter Tryz.func12, Tryz.ntmps12
  go_wp2_with fail
  refine (HC.out _).mono ?_
  rintro e w1 ⟨rfl, hb1⟩
  have hz := blk_below' HZ.out hb1
  have hb : Below w.heap.size w w1 := HB.out.trans (hb1.mono HB.out.size)
  clear hb1
  have c0 := blkC hz 0
  have c1 := blkC hz 1
  have f0 := blkF hz 0
  have f1 := blkF hz 1
  clear hz
  go_wp2
  exact bodyPost_ret (v := .agg #[.int .i64 (low a (b * k)), .int .i64 (lowD a (b * k))]) (by simp [results, Tryz.results12, go_sem, c0, c1, f0, f1]) rfl ⟨rfl, (hb.setCell (by simp <;> omega) _).setCell (by simp <;> omega) _⟩
theorem solveLess (a b c d : Int) (w : World) (h1 : Big (a * d)) (h2 : Big (c * b)) :
    Calls Tryz.prog 13 #[.agg #[.int .i64 a, .int .i64 b], .agg #[.int .i64 c, .int .i64 d]] w fun e w' => e = .returned (.bool (decide (a * d < c * b))) ∧ Below w.heap.size w w' := by
  have q1 := wrap_big h1
  have q2 := wrap_big h2
  have HB := Lib.hid (al_below w (.cells #[.int .i64 a, .int .i64 b] 25) (.cells #[.int .i64 c, .int .i64 d] 25))
  clear h1 h2
  go_enter Tryz.func13, Tryz.ntmps13
  go_wp2_with fail
  go_ret
  exact ⟨rfl, HB.out⟩
theorem refLess (a b c d : Int) (w : World) (h1 : Big (a * d)) (h2 : Big (c * b)) :
    Calls Tryz.prog 14 #[.agg #[.int .i64 a, .int .i64 b], .agg #[.int .i64 c, .int .i64 d]] w fun e w' => e = .returned (.bool (decide (a * d < c * b))) ∧ Below w.heap.size w w' := by
  have q1 := wrap_big h1
  have q2 := wrap_big h2
  have HB := Lib.hid (al_below w (.cells #[.int .i64 a, .int .i64 b] 27) (.cells #[.int .i64 c, .int .i64 d] 27))
  clear h1 h2
  go_enter Tryz.func14, Tryz.ntmps14
  go_wp2_with fail
  go_ret
  exact ⟨rfl, HB.out⟩
/-- A number cut into a range. -/
def inR (n l m : Int) : Int := l + (n % 18446744073709551616) % (m - l + 1)
theorem inR_b (n l m : Int) (h : l ≤ m) : l ≤ inR n l m ∧ inR n l m ≤ m := by
  unfold inR
  have h1 := Int.emod_nonneg (n % 18446744073709551616) (show m - l + 1 ≠ 0 by omega)
  have h2 := Int.emod_lt_of_pos (n % 18446744073709551616) (show 0 < m - l + 1 by omega)
  omega
theorem lawIn (n l m : Int) (w : World) (hw : (Lit.int .i64 n).wf = true) (hl : -35184372088832 ≤ l ∧ l ≤ 1) (hm : 1 ≤ m ∧ m ≤ 35184372088832) :
    Calls Tryz.prog 5 #[.int .i64 n, .int .i64 l, .int .i64 m] w fun e w' => e = .returned (.int .i64 (inR n l m)) ∧ w = w' := by
  have hb := inR_b n l m (by omega)
  have hr0 := Int.emod_nonneg (n % 18446744073709551616) (show m - l + 1 ≠ 0 by omega)
  have hr1 := Int.emod_lt_of_pos (n % 18446744073709551616) (show 0 < m - l + 1 by omega)
  have q1 : IntKind.i64.wrap (m - l) = m - l := wrap_big ⟨by omega, by omega⟩
  have q2 : IntKind.i64.wrap (m - l + 1) = m - l + 1 := wrap_big ⟨by omega, by omega⟩
  unfold inR at hb ⊢
  have q3 : IntKind.i64.wrap ((n % 18446744073709551616) % (m - l + 1)) = (n % 18446744073709551616) % (m - l + 1) := wrap_big ⟨by omega, by omega⟩
  have q4 : IntKind.i64.wrap (l + (n % 18446744073709551616) % (m - l + 1)) = l + (n % 18446744073709551616) % (m - l + 1) := wrap_big ⟨by omega, by omega⟩
  have hne : ¬ (m - l + 1 = 0) := by omega
  go_enter Tryz.func5, Tryz.ntmps5
  go_wp2
  go_ret
  have u1 : IntKind.u64.wrap n = n % 18446744073709551616 := by simp [IntKind.wrap, IntKind.bits, IntKind.signed]
  have u2 : (n % 18446744073709551616).tmod (m - l + 1) = (n % 18446744073709551616) % (m - l + 1) := Int.tmod_eq_emod_of_nonneg (Int.emod_nonneg _ (by omega))
  exact ⟨ret_int (by rw [u1, u2]; unfold wrap64; omega), rfl⟩
end Go.Proofs.YtamjbnfmpfgjcaaGreatDoor
