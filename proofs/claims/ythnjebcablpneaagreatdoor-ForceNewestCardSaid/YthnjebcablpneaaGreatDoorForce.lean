/- Contracts of package force: within. -/
import Derived.Test.YthnjebcablpneaaGreatDoorIn
import Derived.Scope
set_option maxRecDepth 100000
namespace Go.Proofs.YthnjebcablpneaaGreatDoor
open Go.RowKit

def withinC (n h v : Int) : Int := if (0 ≤ n ∧ n ≤ 1099511627776) ∧ (0 ≤ h ∧ h ≤ 1099511627776) ∧ 1 ≤ v ∧ v ≤ 1048576 then 0 else 2
def okTo (k : Nat) (n h v : Int) : Prop := (0 < k → 0 ≤ n ∧ n ≤ 1099511627776) ∧ (1 < k → 0 ≤ h ∧ h ≤ 1099511627776) ∧ (2 < k → 1 ≤ v ∧ v ≤ 1048576)
theorem within (n h v : Int) (w : World) : Calls Tryz.prog 36 #[.int .i64 n, .int .i64 h, .int .i64 v] w fun e w' => e = .returned (.int .i64 (withinC n h v)) ∧ Below w.heap.size w w' := by
  have i0 : ∀ w : World, (Instr.index 123 (.agg #[.int .i64 n, .int .i64 0, .int .i64 1099511627776, .int .i64 h, .int .i64 0, .int .i64 1099511627776, .int .i64 v, .int .i64 1, .int .i64 1048576]) (.int .i64 0)).run Tryz.prog w = .ok (.agg #[.int .i64 n, .int .i64 0, .int .i64 1099511627776]) w := fun w => by kernel_rfl
  have i1 : ∀ w : World, (Instr.index 123 (.agg #[.int .i64 n, .int .i64 0, .int .i64 1099511627776, .int .i64 h, .int .i64 0, .int .i64 1099511627776, .int .i64 v, .int .i64 1, .int .i64 1048576]) (.int .i64 1)).run Tryz.prog w = .ok (.agg #[.int .i64 h, .int .i64 0, .int .i64 1099511627776]) w := fun w => by kernel_rfl
  have i2 : ∀ w : World, (Instr.index 123 (.agg #[.int .i64 n, .int .i64 0, .int .i64 1099511627776, .int .i64 h, .int .i64 0, .int .i64 1099511627776, .int .i64 v, .int .i64 1, .int .i64 1048576]) (.int .i64 2)).run Tryz.prog w = .ok (.agg #[.int .i64 v, .int .i64 1, .int .i64 1048576]) w := fun w => by kernel_rfl
  go_enter Tryz.func36, Tryz.ntmps36
  go_wp2_with fail
  refine wp_scope_straight ?_
  go_wp2_with fail
  refine wp_label ?_
  rename_i K hK
  refine hK _ _ ?_
  clear hK
  go_wp2_with fail
  go_loopw [8, 19] (fun s8 s19 wr => ∃ k : Nat, k ≤ 3 ∧ s19 = .int .i64 k ∧ s8 = .int .i64 0 ∧ Hid (okTo k n h v) ∧ Hid (Below w.heap.size w wr)) (fun _ s19 _ => 3 - (intOf s19).toNat)
  case atStart => exact ⟨0, by omega, rfl, rfl, ⟨fun h => (by omega), fun h => (by omega), fun h => (by omega)⟩, (Below.refl _ _).alloc (Nat.le_refl _) _⟩
  case round =>
    obtain ⟨k, hk, rfl, rfl, HK, HB⟩ := hrel
    obtain rfl | rfl | rfl | rfl : k = 0 ∨ k = 1 ∨ k = 2 ∨ k = 3 := by omega
    · have HK' := HK.out
      by_cases h1 : n < 0
      · have E : Hid (withinC n h v = 2) := by show _ = _; unfold withinC; rw [if_neg (by omega)]
        go_wp2_with fail
        try simp only [Exit.noGoto]
        go_ret
        exact ⟨by rw [E.out]; rfl, HB.out.alloc HB.out.size _⟩
      · by_cases h2 : 1099511627776 < n
        · have E : Hid (withinC n h v = 2) := by show _ = _; unfold withinC; rw [if_neg (by omega)]
          go_wp2_with fail
          try simp only [Exit.noGoto]
          go_ret
          exact ⟨by rw [E.out]; rfl, HB.out.alloc HB.out.size _⟩
        · have HK2 : Hid (okTo 1 n h v) := by
            show okTo _ _ _ _
            unfold okTo at HK' ⊢
            omega
          clear HK'
          go_wp2_with fail
          go_roundw
          case rel => exact ⟨1, by omega, by go_num, rfl, HK2, HB.out.alloc HB.out.size _⟩
          case measure => simp [intOf]
    · have HK' := HK.out
      by_cases h1 : h < 0
      · have E : Hid (withinC n h v = 2) := by show _ = _; unfold withinC; rw [if_neg (by omega)]
        go_wp2_with fail
        try simp only [Exit.noGoto]
        go_ret
        exact ⟨by rw [E.out]; rfl, HB.out.alloc HB.out.size _⟩
      · by_cases h2 : 1099511627776 < h
        · have E : Hid (withinC n h v = 2) := by show _ = _; unfold withinC; rw [if_neg (by omega)]
          go_wp2_with fail
          try simp only [Exit.noGoto]
          go_ret
          exact ⟨by rw [E.out]; rfl, HB.out.alloc HB.out.size _⟩
        · have HK2 : Hid (okTo 2 n h v) := by
            show okTo _ _ _ _
            unfold okTo at HK' ⊢
            omega
          clear HK'
          go_wp2_with fail
          go_roundw
          case rel => exact ⟨2, by omega, by go_num, rfl, HK2, HB.out.alloc HB.out.size _⟩
          case measure => simp [intOf]
    · have HK' := HK.out
      by_cases h1 : v < 1
      · have E : Hid (withinC n h v = 2) := by show _ = _; unfold withinC; rw [if_neg (by omega)]
        go_wp2_with fail
        try simp only [Exit.noGoto]
        go_ret
        exact ⟨by rw [E.out]; rfl, HB.out.alloc HB.out.size _⟩
      · by_cases h2 : 1048576 < v
        · have E : Hid (withinC n h v = 2) := by show _ = _; unfold withinC; rw [if_neg (by omega)]
          go_wp2_with fail
          try simp only [Exit.noGoto]
          go_ret
          exact ⟨by rw [E.out]; rfl, HB.out.alloc HB.out.size _⟩
        · have HK2 : Hid (okTo 3 n h v) := by
            show okTo _ _ _ _
            unfold okTo at HK' ⊢
            omega
          clear HK'
          go_wp2_with fail
          go_roundw
          case rel => exact ⟨3, by omega, by go_num, rfl, HK2, HB.out.alloc HB.out.size _⟩
          case measure => simp [intOf]
    · have HK' := HK.out
      have E : Hid (withinC n h v = 0) := by show _ = _; unfold withinC; unfold okTo at HK'; rw [if_pos (by omega)]
      clear HK'
      go_wp2_with fail
      try simp only [Exit.noGoto]
      go_ret
      exact ⟨by rw [E.out]; rfl, HB.out⟩
end Go.Proofs.YthnjebcablpneaaGreatDoor
