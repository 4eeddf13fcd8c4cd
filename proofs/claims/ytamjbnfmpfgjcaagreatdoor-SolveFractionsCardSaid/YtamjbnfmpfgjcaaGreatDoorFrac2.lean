/- Contracts: fractions, of the program and of the document. -/
import Derived.Test.YtamjbnfmpfgjcaaGreatDoorFrac
import Derived.Test.YtamjbnfmpfgjcaaGreatDoorBlk
import Derived.BigQuiet
import Derived.Deep.QuietTactic
import Derived.Scope
import Derived.StillTailTactics
set_option maxRecDepth 100000
namespace Go.Proofs.YtamjbnfmpfgjcaaGreatDoor
open Go.RowKit
/-- The denominator in lowest terms. -/
def lowD (n d : Int) : Int := d.tdiv (Int.gcd n d : Int)
def Big (x : Int) : Prop := -4611686018427387904 ≤ x ∧ x ≤ 4611686018427387904
theorem gcd_end {n d x : Int} (h : Int.gcd x 0 = Int.gcd n d) : (x.natAbs : Int) = (Int.gcd n d : Int) := by
  rw [← h]; simp [Int.gcd]
theorem ret_int {k : IntKind} {a b : Int} (h : a = b) : Ending.returned (.int k a) = .returned (.int k b) := by rw [h]
theorem big_tmod {x y : Int} (hy : y ≠ 0) (h : Big y) : Big (x.tmod y) := by
  have := tmod_lt x y hy
  unfold Big at *
  omega
theorem big_tdiv {x y : Int} (hy : 0 < y) (h : Big x) : Big (x.tdiv y) := by
  have := tdiv_le x y hy
  unfold Big at *
  omega
theorem wrap_big {x : Int} (h : Big x) : IntKind.i64.wrap x = x := by
  unfold Big at h
  simp [IntKind.wrap, IntKind.bits, IntKind.signed]; omega
theorem drewN_below {B : Nat} {a w : World} (h : Below B a w) (N : Nat) : Below B a (w.drewN N) := ⟨h.os, h.tape, h.output, h.size, h.block⟩
theorem solveOf (n d : Int) (w : World) (hd : 0 < d) (hn : Big n) (hdb : Big d) :
    Calls Tryz.prog 6 #[.int .i64 n, .int .i64 d] w fun e w' => e = .returned (.agg #[.int .i64 (low n d), .int .i64 (lowD n d)]) ∧ Below w.heap.size w w' := by
  have hg0 := gcd_pos n d hd
  have hgb : (Int.gcd n d : Int) ≤ 4611686018427387904 := by
    have h1 : Int.gcd n d ∣ d.natAbs := Nat.gcd_dvd_right ..
    have h2 := Nat.le_of_dvd (by omega) h1
    unfold Big at hdb
    omega
  have q1 : Big (n.tdiv (Int.gcd n d : Int)) := big_tdiv hg0 hn
  have q2 : Big (d.tdiv (Int.gcd n d : Int)) := big_tdiv hg0 hdb
  unfold low lowD
  generalize hG : (Int.gcd n d : Int) = G at hg0 hgb q1 q2 ⊢
  have HGG := Lib.hid hG
  have HQ1 := Lib.hid (wrap_big q1)
  have HQ2 := Lib.hid (wrap_big q2)
  have HN := Lib.hid hn
  have HD := Lib.hid hdb
  clear q1 q2 hn hdb hG
  go_enter Tryz.func6, Tryz.ntmps6
  go_wp2
  go_loopw [5, 6] (fun g r wr => ∃ x y : Int, g = .int .i64 x ∧ r = .int .i64 y ∧ Hid (Int.gcd x y = Int.gcd n d) ∧ Hid (Big x ∧ Big y) ∧ Hid (wr.heap[w.heap.size]? = some (.cells #[.int .i64 0, .int .i64 0] 25 (0, 0))) ∧ Hid (Below w.heap.size w wr)) (fun _ r _ => (intOf r).natAbs)
  case atStart => exact ⟨n, d, rfl, rfl, rfl, ⟨HN.out, HD.out⟩, heap_alloc_new w _, (Below.refl _ w).alloc (Nat.le_refl _) _⟩
  case round =>
    rename_i wr _
    obtain ⟨x, y, rfl, rfl, HG, HB, HZ, HW⟩ := hrel
    by_cases hy : y = 0
    · subst hy
      have hx := gcd_end HG.out
      rw [HGG.out] at hx
      have hxx : x = G ∨ x = -G := by omega
      clear hx
      have q1 := HQ1.out
      have q2 := HQ2.out
      have hne : (G == 0) = false := by simp; omega
      have hne0 : ¬ (G = 0) := by omega
      have hz : wr.drew.heap[w.heap.size]? = some (.cells #[.int .i64 0, .int .i64 0] 25 (0, 0)) := HZ.out
      have hb : Below w.heap.size w wr.drew := HW.out.drew
      rcases hxx with rfl | rfl
      · go_wp2
        go_still_tail 7, (by kernel_rfl)
        change wpList _ _ _ _ _ wr.drew
        generalize wr.drew = V at hz hb ⊢
        have c0 := blkC hz 0
        have c1 := blkC hz 1
        have f0 := blkF hz 0
        have f1 := blkF hz 1
        clear hz
        go_wp2
        exact bodyPost_ret (v := .agg #[.int .i64 (n.tdiv x), .int .i64 (d.tdiv x)]) (by simp [results, Tryz.results6, go_sem, c0, c1, f0, f1]) rfl ⟨rfl, (hb.setCell (Nat.le_refl _) _).setCell (Nat.le_refl _) _⟩
      · have hw : IntKind.i64.wrap (- -G) = G := by rw [Int.neg_neg]; exact wrap_big ⟨by omega, by omega⟩
        go_wp2
        go_still_tail 7, (by kernel_rfl)
        change wpList _ _ _ _ _ wr.drew
        generalize wr.drew = V at hz hb ⊢
        have c0 := blkC hz 0
        have c1 := blkC hz 1
        have f0 := blkF hz 0
        have f1 := blkF hz 1
        clear hz
        go_wp2
        exact bodyPost_ret (v := .agg #[.int .i64 (n.tdiv G), .int .i64 (d.tdiv G)]) (by simp [results, Tryz.results6, go_sem, c0, c1, f0, f1]) rfl ⟨rfl, (hb.setCell (Nat.le_refl _) _).setCell (Nat.le_refl _) _⟩
    · have hy' : (y == 0) = false := by simpa using hy
      have hy2 : (y != 0) = true := by simpa using hy
      have hlt := tmod_lt x y hy
      have HG2 : Hid (Int.gcd y (x.tmod y) = Int.gcd n d) := by show _ = _; rw [gcd_step]; exact HG.out
      have HB2 : Hid (Big y ∧ Big (x.tmod y)) := ⟨HB.out.2, big_tmod hy HB.out.2⟩
      go_wp2
      go_quiet (fail)
      go_wp2
      go_roundw
      case rel => exact ⟨y, x.tmod y, rfl, rfl, HG2, HB2, HZ.out, drewN_below HW.out _⟩
      case measure => show (x.tmod y).natAbs < y.natAbs; exact hlt
theorem refGcd (n d : Int) (w : World) (hd : 0 < d) (hn : Big n) (hdb : Big d) :
    Calls Tryz.prog 21 #[.int .i64 n, .int .i64 d] w fun e w' => e = .returned (.int .i64 (Int.gcd n d : Int)) ∧ ∃ N, w' = w.drewN N := by
  have hg0 := gcd_pos n d hd
  have hgb : (Int.gcd n d : Int) ≤ 4611686018427387904 := by
    have h1 : Int.gcd n d ∣ d.natAbs := Nat.gcd_dvd_right ..
    have h2 := Nat.le_of_dvd (by omega) h1
    unfold Big at hdb
    omega
  generalize hG : (Int.gcd n d : Int) = G at hg0 hgb ⊢
  have HGG := Lib.hid hG
  have HN := Lib.hid hn
  have HD := Lib.hid hdb
  clear hn hdb hG
  go_enter Tryz.func21, Tryz.ntmps21
  go_wp2
  go_loopw [0, 1] (fun g r wr => ∃ x y : Int, g = .int .i64 x ∧ r = .int .i64 y ∧ Hid (Int.gcd x y = Int.gcd n d) ∧ Hid (Big x ∧ Big y) ∧ ∃ N, wr = w.drewN N) (fun _ r _ => (intOf r).natAbs)
  case atStart => exact ⟨n, d, rfl, rfl, rfl, ⟨HN.out, HD.out⟩, 0, rfl⟩
  case round =>
    obtain ⟨x, y, rfl, rfl, HG, HB, N, rfl⟩ := hrel
    by_cases hy : y = 0
    · subst hy
      have hx := gcd_end HG.out
      rw [HGG.out] at hx
      have hxx : x = G ∨ x = -G := by omega
      clear hx
      have hw1 : IntKind.i64.wrap (-G) = -G := wrap_big ⟨by omega, by omega⟩
      have hw2 : IntKind.i64.wrap (- -G) = G := by rw [Int.neg_neg]; exact wrap_big ⟨by omega, by omega⟩
      have hm1 : (if G < -G then -G else G) = G := if_neg (by omega)
      have hm2 : (if -G < G then G else -G) = G := if_pos (by omega)
      rcases hxx with rfl | rfl
      · go_wp2
        go_ret
        exact ⟨ret_int (by omega), N, rfl⟩
      · go_wp2
        go_ret
        exact ⟨ret_int (by omega), N, rfl⟩
    · have hy' : (y == 0) = false := by simpa using hy
      have hy2 : (y != 0) = true := by simpa using hy
      have hlt := tmod_lt x y hy
      have HG2 : Hid (Int.gcd y (x.tmod y) = Int.gcd n d) := by show _ = _; rw [gcd_step]; exact HG.out
      have HB2 : Hid (Big y ∧ Big (x.tmod y)) := ⟨HB.out.2, big_tmod hy HB.out.2⟩
      go_wp2
      go_quiet (fail)
      go_wp2
      go_roundw
      case rel => exact ⟨y, x.tmod y, rfl, rfl, HG2, HB2, _, World.drewN_drewN _ _ _⟩
      case measure => show (x.tmod y).natAbs < y.natAbs; exact hlt
theorem refOf (n d : Int) (w : World) (hd : 0 < d) (hn : Big n) (hdb : Big d) :
    Calls Tryz.prog 7 #[.int .i64 n, .int .i64 d] w fun e w' => e = .returned (.agg #[.int .i64 (low n d), .int .i64 (lowD n d)]) ∧ Below w.heap.size w w' := by
  have hg0 := gcd_pos n d hd
  have q1 : Big (n.tdiv (Int.gcd n d : Int)) := big_tdiv hg0 hn
  have q2 : Big (d.tdiv (Int.gcd n d : Int)) := big_tdiv hg0 hdb
  have hcall := fun w => refGcd n d w hd hn hdb
  unfold low lowD
  generalize (Int.gcd n d : Int) = G at hg0 q1 q2 hcall ⊢
  have hq1 := wrap_big q1
  have hq2 := wrap_big q2
  have HC := Lib.hid hcall
  have hne0 : ¬ (G = 0) := by omega
  clear q1 q2 hcall
  have hz : (w.alloc (.cells #[.int .i64 0, .int .i64 0] 27)).heap[w.heap.size]? = some (.cells #[.int .i64 0, .int .i64 0] 27 (0, 0)) := heap_alloc_new w _
  have hb : Below w.heap.size w (w.alloc (.cells #[.int .i64 0, .int .i64 0] 27)) := (Below.refl _ w).alloc (Nat.le_refl _) _
  have HZ := Lib.hid hz
  have HB := Lib.hid hb
  clear hz hb
  go_enter Tryz.func7, Tryz.ntmps7
  go_wp2_with (go_at_call 21; refine (HC.out _).mono ?_; rintro e w' ⟨rfl, N, rfl⟩)
  go_still_tail 7, (by kernel_rfl)
  change wpList _ _ _ _ _ ((w.alloc (.cells #[.int .i64 0, .int .i64 0] 27)).drewN N).drew
  have hz : ((w.alloc (.cells #[.int .i64 0, .int .i64 0] 27)).drewN N).drew.heap[w.heap.size]? = some (.cells #[.int .i64 0, .int .i64 0] 27 (0, 0)) := HZ.out
  have hb : Below w.heap.size w ((w.alloc (.cells #[.int .i64 0, .int .i64 0] 27)).drewN N).drew := (drewN_below HB.out N).drew
  generalize ((w.alloc (.cells #[.int .i64 0, .int .i64 0] 27)).drewN N).drew = V at hz hb ⊢
  have c0 := blkC hz 0
  have c1 := blkC hz 1
  have f0 := blkF hz 0
  have f1 := blkF hz 1
  clear hz
  go_wp2
  exact bodyPost_ret (v := .agg #[.int .i64 (n.tdiv G), .int .i64 (d.tdiv G)]) (by simp [results, Tryz.results7, go_sem, c0, c1, f0, f1]) rfl ⟨rfl, (hb.setCell (Nat.le_refl _) _).setCell (Nat.le_refl _) _⟩
end Go.Proofs.YtamjbnfmpfgjcaaGreatDoor
