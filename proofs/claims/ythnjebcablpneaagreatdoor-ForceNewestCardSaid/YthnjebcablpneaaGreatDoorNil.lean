/- Nil rules: what is told of them. -/
import Derived.Test.YthnjebcablpneaaGreatDoorIn
import Derived.Test.YthnjebcablpneaaGreatDoorBlk
import Derived.Scope
import Derived.Test.YthnjebcablpneaaGreatDoorEnv
import Derived.Test.YthnjebcablpneaaGreatDoorEvU
set_option maxRecDepth 100000
namespace Go.Proofs.YthnjebcablpneaaGreatDoor
open Go.RowKit Go.Ev
theorem laid_none0 (w : World) : LaidIn [] w := fun _ _ _ _ h => by cases h
theorem nilName (w : World) : Calls Tryz.prog 27 #[.pointer none] w fun e w' => e = .returned (.string ByteArray.empty) ∧ Below w.heap.size w w' :=
  plain_calls envOK hookAll_nil (fn := Tryz.f27) (n := 300) (ng := 12) (G := []) (by kernel_rfl) rfl (by kernel_rfl) rfl rfl (by kernel_rfl) (by kernel_rfl) (by kernel_rfl) (laid_none0 w)
theorem nilSeats (w : World) : Calls Tryz.prog 29 #[.pointer none] w fun e w' => e = .returned (.int .i64 0) ∧ Below w.heap.size w w' :=
  plain_calls envOK hookAll_nil (fn := Tryz.f29) (n := 300) (ng := 12) (G := []) (by kernel_rfl) rfl (by kernel_rfl) rfl rfl (by kernel_rfl) (by kernel_rfl) (by kernel_rfl) (laid_none0 w)
theorem nilCode (w : World) : Calls Tryz.prog 28 #[.pointer none] w fun e w' => e = .returned (.pointer none) ∧ Below w.heap.size w w' :=
  plain_calls envOK hookAll_nil (fn := Tryz.f28) (n := 300) (ng := 12) (G := []) (by kernel_rfl) rfl (by kernel_rfl) rfl rfl (by kernel_rfl) (by kernel_rfl) (by kernel_rfl) (laid_none0 w)
theorem nilStakes (w : World) : Calls Tryz.prog 30 #[.pointer none] w fun e w' => e = .returned (.slice none 0 0) ∧ Below w.heap.size w w' :=
  plain_calls envOK hookAll_nil (fn := Tryz.f30) (n := 300) (ng := 12) (G := []) (by kernel_rfl) rfl (by kernel_rfl) rfl rfl (by kernel_rfl) (by kernel_rfl) (by kernel_rfl) (laid_none0 w)
theorem nilMenu (w : World) : Calls Tryz.prog 31 #[.pointer none] w fun e w' => e = .returned (.slice none 0 0) ∧ Below w.heap.size w w' :=
  plain_calls envOK hookAll_nil (fn := Tryz.f31) (n := 300) (ng := 12) (G := []) (by kernel_rfl) rfl (by kernel_rfl) rfl rfl (by kernel_rfl) (by kernel_rfl) (by kernel_rfl) (laid_none0 w)
theorem nilDigest (w : World) : Calls Tryz.prog 32 #[.pointer none] w fun e w' => e = .returned (.agg #[.int .u8 0, .int .u8 0, .int .u8 0, .int .u8 0, .int .u8 0, .int .u8 0, .int .u8 0, .int .u8 0]) ∧ Below w.heap.size w w' :=
  plain_calls envOK hookAll_nil (fn := Tryz.f32) (n := 300) (ng := 12) (G := []) (by kernel_rfl) rfl (by kernel_rfl) rfl rfl (by kernel_rfl) (by kernel_rfl) (by kernel_rfl) (laid_none0 w)
theorem nilStart (w : World) : Calls Tryz.prog 19 #[.pointer none, .slice none 0 0] w fun e w' => e = .returned (.tuple #[.agg #[.slice none 0 0, .slice none 0 0, .slice none 0 0, .int .i64 0, .int .i64 0, .int .i64 0, .int .i64 0, .int .u64 0], .int .i64 1]) ∧ Below w.heap.size w w' :=
  plain_calls envOK hookAll_nil (fn := Tryz.f19) (n := 300) (ng := 12) (G := []) (by kernel_rfl) rfl (by kernel_rfl) rfl rfl (by kernel_rfl) (by kernel_rfl) (by kernel_rfl) (laid_none0 w)
section
variable (A B C : Option Addr) (n c m d k e : Nat) (r0 r1 r2 r3 r4 : Int) (w : World)
theorem nilCheck : Calls Tryz.prog 24 #[.pointer none, .agg #[.slice A n c, .slice B m d, .slice C k e, .int .i64 r0, .int .i64 r1, .int .i64 r2, .int .i64 r3, .int .u64 r4]] w fun e w' => e = .returned (.int .i64 1) ∧ Below w.heap.size w w' := by
  go_enter Tryz.func24, Tryz.ntmps24
  go_wp2_with fail
  go_ret
  exact ⟨rfl, (Below.refl w.heap.size w).alloc (Nat.le_refl _) _⟩
theorem nilTurn : Calls Tryz.prog 25 #[.pointer none, .agg #[.slice A n c, .slice B m d, .slice C k e, .int .i64 r0, .int .i64 r1, .int .i64 r2, .int .i64 r3, .int .u64 r4]] w fun e w' => e = .returned (.int .i64 (-1)) ∧ Below w.heap.size w w' := by
  go_enter Tryz.func25, Tryz.ntmps25
  go_wp2_with fail
  refine (nilCheck _ _ _ _ _ _ _ _ _ _ _ _ _ _ _).mono ?_
  rintro e w1 ⟨rfl, hb1⟩
  go_wp2_with fail
  go_ret
  exact ⟨rfl, ((Below.refl w.heap.size w).alloc (Nat.le_refl _) _).trans (hb1.mono (by simp))⟩
theorem nilMoves : Calls Tryz.prog 26 #[.pointer none, .agg #[.slice A n c, .slice B m d, .slice C k e, .int .i64 r0, .int .i64 r1, .int .i64 r2, .int .i64 r3, .int .u64 r4]] w fun e w' => e = .returned (.slice none 0 0) ∧ Below w.heap.size w w' := by
  go_enter Tryz.func26, Tryz.ntmps26
  go_wp2_with fail
  refine wp_scope_straight ?_
  go_wp2_with fail
  refine (nilTurn _ _ _ _ _ _ _ _ _ _ _ _ _ _ _).mono ?_
  rintro e w1 ⟨rfl, hb1⟩
  go_wp2_with fail
  try simp only [Exit.noGoto]
  go_ret
  exact ⟨rfl, ((Below.refl w.heap.size w).alloc (Nat.le_refl _) _).trans (hb1.mono (by simp))⟩
theorem nilDo (seat : Int) : Calls Tryz.prog 20 #[.pointer none, .agg #[.slice A n c, .slice B m d, .slice C k e, .int .i64 r0, .int .i64 r1, .int .i64 r2, .int .i64 r3, .int .u64 r4], .int .i64 seat, .agg #[.bool false, .slice none 0 0, .int .u8 0, .int .u8 0, .int .u8 0, .int .u8 0, .int .u8 0, .int .u8 0, .int .u8 0, .int .u8 0]] w fun e w' => e = .returned (.tuple #[.agg #[.slice none 0 0, .slice none 0 0, .slice none 0 0, .int .i64 0, .int .i64 0, .int .i64 0, .int .i64 0, .int .u64 0], .int .i64 1]) ∧ Below w.heap.size w w' := by
  have hb0 : Below w.heap.size w (((w.alloc (.cells #[.slice A n c, .slice B m d, .slice C k e, .int .i64 r0, .int .i64 r1, .int .i64 r2, .int .i64 r3, .int .u64 r4] 29)).alloc (.cells #[.bool false, .slice none 0 0, .int .u8 0, .int .u8 0, .int .u8 0, .int .u8 0, .int .u8 0, .int .u8 0, .int .u8 0, .int .u8 0] 55)).alloc (.cells #[.slice none 0 0, .slice none 0 0, .slice none 0 0, .int .i64 0, .int .i64 0, .int .i64 0, .int .i64 0, .int .u64 0] 29)) := (((Below.refl _ w).alloc (Nat.le_refl _) _).alloc (by simp <;> omega) _).alloc (by simp <;> omega) _
  go_enter Tryz.func20, Tryz.ntmps20
  go_wp2_with fail
  refine (nilCheck _ _ _ _ _ _ _ _ _ _ _ _ _ _ _).mono ?_
  rintro e w1 ⟨rfl, hb1⟩
  have hblk : w1.heap[w.heap.size + 2]? = some (.cells #[.slice none 0 0, .slice none 0 0, .slice none 0 0, .int .i64 0, .int .i64 0, .int .i64 0, .int .i64 0, .int .u64 0] 29 (0, 0)) := last_stays (by simp) hb1
  have HB : Hid (Below w.heap.size w w1) := hb0.trans (hb1.mono hb0.size)
  have k0 := blkC hblk 0
  have f0 := blkF hblk 0
  have k1 := blkC hblk 1
  have f1 := blkF hblk 1
  have k2 := blkC hblk 2
  have f2 := blkF hblk 2
  have k3 := blkC hblk 3
  have f3 := blkF hblk 3
  have k4 := blkC hblk 4
  have f4 := blkF hblk 4
  have k5 := blkC hblk 5
  have f5 := blkF hblk 5
  have k6 := blkC hblk 6
  have f6 := blkF hblk 6
  have k7 := blkC hblk 7
  have f7 := blkF hblk 7
  clear hblk hb0 hb1
  have hg : w.heap.size ≤ w.heap.size + 2 := Nat.le_add_right _ _
  go_wp2_with fail
  exact bodyPost_ret (v := .tuple #[.agg #[.slice none 0 0, .slice none 0 0, .slice none 0 0, .int .i64 0, .int .i64 0, .int .i64 0, .int .i64 0, .int .u64 0], .int .i64 1]) (by simp [results, Tryz.results20, go_sem, k0, f0, k1, f1, k2, f2, k3, f3, k4, f4, k5, f5, k6, f6, k7, f7]) rfl ⟨rfl, ((((((((HB.out).setCell hg _).setCell hg _).setCell hg _).setCell hg _).setCell hg _).setCell hg _).setCell hg _).setCell hg _⟩
theorem nilSilence (seat : Int) : Calls Tryz.prog 21 #[.pointer none, .agg #[.slice A n c, .slice B m d, .slice C k e, .int .i64 r0, .int .i64 r1, .int .i64 r2, .int .i64 r3, .int .u64 r4], .int .i64 seat] w fun e w' => e = .returned (.tuple #[.agg #[.slice none 0 0, .slice none 0 0, .slice none 0 0, .int .i64 0, .int .i64 0, .int .i64 0, .int .i64 0, .int .u64 0], .int .i64 1]) ∧ Below w.heap.size w w' := by
  have hb0 : Below w.heap.size w ((w.alloc (.cells #[.slice A n c, .slice B m d, .slice C k e, .int .i64 r0, .int .i64 r1, .int .i64 r2, .int .i64 r3, .int .u64 r4] 29)).alloc (.cells #[.slice none 0 0, .slice none 0 0, .slice none 0 0, .int .i64 0, .int .i64 0, .int .i64 0, .int .i64 0, .int .u64 0] 29)) := ((Below.refl _ w).alloc (Nat.le_refl _) _).alloc (by simp <;> omega) _
  go_enter Tryz.func21, Tryz.ntmps21
  go_wp2_with fail
  refine (nilCheck _ _ _ _ _ _ _ _ _ _ _ _ _ _ _).mono ?_
  rintro e w1 ⟨rfl, hb1⟩
  have hblk : w1.heap[w.heap.size + 1]? = some (.cells #[.slice none 0 0, .slice none 0 0, .slice none 0 0, .int .i64 0, .int .i64 0, .int .i64 0, .int .i64 0, .int .u64 0] 29 (0, 0)) := last_stays (by simp) hb1
  have HB : Hid (Below w.heap.size w w1) := hb0.trans (hb1.mono hb0.size)
  have k0 := blkC hblk 0
  have f0 := blkF hblk 0
  have k1 := blkC hblk 1
  have f1 := blkF hblk 1
  have k2 := blkC hblk 2
  have f2 := blkF hblk 2
  have k3 := blkC hblk 3
  have f3 := blkF hblk 3
  have k4 := blkC hblk 4
  have f4 := blkF hblk 4
  have k5 := blkC hblk 5
  have f5 := blkF hblk 5
  have k6 := blkC hblk 6
  have f6 := blkF hblk 6
  have k7 := blkC hblk 7
  have f7 := blkF hblk 7
  clear hblk hb0 hb1
  have hg : w.heap.size ≤ w.heap.size + 1 := Nat.le_add_right _ _
  go_wp2_with fail
  exact bodyPost_ret (v := .tuple #[.agg #[.slice none 0 0, .slice none 0 0, .slice none 0 0, .int .i64 0, .int .i64 0, .int .i64 0, .int .i64 0, .int .u64 0], .int .i64 1]) (by simp [results, Tryz.results21, go_sem, k0, f0, k1, f1, k2, f2, k3, f3, k4, f4, k5, f5, k6, f6, k7, f7]) rfl ⟨rfl, ((((((((HB.out).setCell hg _).setCell hg _).setCell hg _).setCell hg _).setCell hg _).setCell hg _).setCell hg _).setCell hg _⟩
theorem nilPays (pot : Int) : Calls Tryz.prog 22 #[.pointer none, .agg #[.slice A n c, .slice B m d, .slice C k e, .int .i64 r0, .int .i64 r1, .int .i64 r2, .int .i64 r3, .int .u64 r4], .int .i64 pot] w fun e w' => e = .returned (.tuple #[.slice none 0 0, .int .i64 1]) ∧ Below w.heap.size w w' := by
  go_enter Tryz.func22, Tryz.ntmps22
  go_wp2_with fail
  refine (nilCheck _ _ _ _ _ _ _ _ _ _ _ _ _ _ _).mono ?_
  rintro e w1 ⟨rfl, hb1⟩
  go_wp2_with fail
  go_ret2
  exact ⟨rfl, ((Below.refl w.heap.size w).alloc (Nat.le_refl _) _).trans (hb1.mono (by simp))⟩
end
end Go.Proofs.YthnjebcablpneaaGreatDoor
