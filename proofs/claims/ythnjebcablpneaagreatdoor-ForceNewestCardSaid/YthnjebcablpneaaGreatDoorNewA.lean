/- Contracts for the law of the newest claim: two empty quarrels are the same. -/
import Derived.Test.YthnjebcablpneaaGreatDoorClaim
import Derived.Test.YthnjebcablpneaaGreatDoorSameP
set_option maxRecDepth 100000
namespace Go.Proofs.YthnjebcablpneaaGreatDoor
open Go.RowKit Go.Ev
theorem fsame0 (w : World) : Calls Tryz.prog 14 #[.agg #[.int .i64 0, .int .i64 0, .slice none 0 0, .slice none 0 0, .slice none 0 0, .int .i64 0, .int .i64 0, .int .i64 0, .int .i64 0, .int .u64 0, .int .i64 0], .agg #[.int .i64 0, .int .i64 0, .slice none 0 0, .slice none 0 0, .slice none 0 0, .int .i64 0, .int .i64 0, .int .i64 0, .int .i64 0, .int .u64 0, .int .i64 0]] w fun e w' => e = .returned (.bool true) ∧ Below w.heap.size w w' :=
  plain_calls envOK hookAll_nil (fn := Tryz.f14) (n := 300) (ng := 12) (G := []) (by kernel_rfl) rfl (by kernel_rfl) rfl rfl (by kernel_rfl) (by kernel_rfl) (by kernel_rfl) (laid_none w)
/-- The position of one number. -/
def num1 (f : Int) : PosD := ⟨[f], [], [], ⟨0, 0, 0, 0, 0⟩⟩
theorem num_at (w : World) {f : Int} (hf : 0 ≤ f ∧ f ≤ 65535) : PosAt (w.alloc (.cells #[.int .i32 f] 21)) (some ⟨w.heap.size, 0, none⟩) none none 1 0 0 (num1 f) := by
  have hlit := World.ownsRow_lit (base := w.heap.size) (e := 21) (size := 1) w #[.int .i32 f] 1 (Nat.le_refl _) (by unfold maxLen; omega) rfl
  refine ⟨Sl.of_row (xs := [f]) hlit, Sl.of_row (base := 0) (e := 0) (c := 0) (xs := []) ⟨rfl, .inl ⟨rfl, rfl⟩⟩, Sln.of_row (base := 0) (e := 0) (c := 0) (xs := []) ⟨rfl, .inl ⟨rfl, rfl⟩⟩ rfl (fun _ h => absurd h List.not_mem_nil) (by omega), ?_, (fun _ h => absurd h List.not_mem_nil), ?_⟩
  · intro x hx
    simp only [num1, List.mem_cons, List.not_mem_nil, or_false] at hx
    omega
  · exact ⟨rfl, rfl, rfl, rfl, rfl⟩
theorem within_num {f h : Int} (hf : 0 ≤ f ∧ f ≤ 65535) (hh : 0 ≤ h ∧ h ≤ 100) : withinC f h 3 = 0 := by
  unfold withinC
  rw [if_pos (by omega)]
end Go.Proofs.YthnjebcablpneaaGreatDoor
