/- Contract: Agree without a verifier, at the law's own memory. -/
import Derived.Test.YtpnegfocmaecbaaDoorApart2
namespace Go.Proofs.YtpnegfocmaecbaaDoor
open Go.RowKit
theorem flat_get {α : Type} {f : α → List Value} {sz : Nat} : ∀ (xs : List α), (∀ x ∈ xs, (f x).length = sz) → ∀ (i : Nat) (x : α), xs[i]? = some x → ∀ (j : Nat) (c : Value), (f x)[j]? = some c → (xs.flatMap f)[i * sz + j]? = some c := by
  intro xs
  induction xs with
  | nil => intro _ i x h; simp at h
  | cons y ys ih =>
    intro hl i x hi j c hc
    have hy := hl y (by simp)
    have hj : j < (f x).length := (List.getElem?_eq_some_iff.1 hc).1
    cases i with
    | zero =>
      simp at hi
      subst hi
      rw [List.flatMap_cons, Nat.zero_mul, Nat.zero_add, List.getElem?_append_left hj]
      exact hc
    | succ i =>
      have hx := hl x (List.mem_of_getElem? hi)
      rw [List.flatMap_cons, List.getElem?_append_right (by rw [hy, Nat.succ_mul]; omega), hy]
      have : (i + 1) * sz + j - sz = i * sz + j := by rw [Nat.succ_mul]; omega
      rw [this]
      exact ih (fun z hz => hl z (by simp [hz])) i x (by simpa using hi) j c hc
theorem Sl.of_block {α : Type} {f : α → Value} {w : World} {g n : Nat} {t : TypeId} {cs : Array Value} {xs : List α} (h : w.heap[g]? = some (.cells cs t (0, 0))) (hl : xs.length = n) (hm : n ≤ 9223372036854775807) (hc : cs.toList = xs.map f) : Sl f w (some ⟨g, 0, none⟩) n xs :=
  ⟨hl, hm, fun _ => ⟨g, 0, rfl, blk_lt h, fun k v hv => by rw [Nat.zero_add, blk_cell h, ← Array.getElem?_toList, hc, List.getElem?_map, hv]; rfl⟩⟩
theorem Sln.of_block {α : Type} {sz : Nat} {f : α → List Value} {w : World} {g n : Nat} {t : TypeId} {cs : Array Value} {xs : List α} (h : w.heap[g]? = some (.cells cs t (0, 0))) (hl : xs.length = n) (hm : n ≤ 9223372036854775807) (hs : ∀ x ∈ xs, (f x).length = sz) (hc : cs.toList = xs.flatMap f) : Sln sz f w (some ⟨g, 0, none⟩) n xs :=
  ⟨hl, hm, hs, fun _ => ⟨g, 0, rfl, blk_lt h, fun i v hv j c hj => by rw [Nat.zero_add, blk_cell h, ← Array.getElem?_toList, hc]; exact flat_get xs hs i v hv j c hj⟩⟩
theorem agreeLit (wr : World) : Calls Tryd.prog 8 #[.nilIface, .agg #[.int .u8 0, .int .u8 0, .int .u8 0, .int .u8 0, .int .u8 0, .int .u8 0, .int .u8 0, .int .u8 0, .slice (some ⟨wr.heap.size, 0, none⟩) 2 2], .int .i64 5, .slice (some ⟨wr.heap.size + 1, 0, none⟩) 2 2, .slice (some ⟨wr.heap.size + 1 + 1 + 1 + 1, 0, none⟩) 2 2, .slice (some ⟨wr.heap.size + 1 + 1 + 1 + 1 + 1, 0, none⟩) 2 2]
    ((((((wr.alloc (.cells #[.int .i64 2, .int .i64 3] 3)).alloc (.cells #[.int .u8 1, .int .u8 0, .int .u8 0, .int .u8 0, .int .u8 0, .int .u8 0, .int .u8 0, .int .u8 0, .int .u8 2, .int .u8 0, .int .u8 0, .int .u8 0, .int .u8 0, .int .u8 0, .int .u8 0, .int .u8 0] 41)).alloc (.cells #[.int .u8 0, .int .u8 0] 5)).alloc (.cells #[.int .u8 1, .int .u8 0] 5)).alloc (.cells #[.slice (some ⟨wr.heap.size + 1 + 1, 0, none⟩) 2 2, .slice (some ⟨wr.heap.size + 1 + 1 + 1, 0, none⟩) 2 2] 44)).alloc (.cells #[.bool false, .bool true] 4)) fun e w' => e = .returned (.int .i64 16) ∧ Below wr.heap.size wr w' := by
  have hb : Below wr.heap.size wr ((((((wr.alloc (.cells #[.int .i64 2, .int .i64 3] 3)).alloc (.cells #[.int .u8 1, .int .u8 0, .int .u8 0, .int .u8 0, .int .u8 0, .int .u8 0, .int .u8 0, .int .u8 0, .int .u8 2, .int .u8 0, .int .u8 0, .int .u8 0, .int .u8 0, .int .u8 0, .int .u8 0, .int .u8 0] 41)).alloc (.cells #[.int .u8 0, .int .u8 0] 5)).alloc (.cells #[.int .u8 1, .int .u8 0] 5)).alloc (.cells #[.slice (some ⟨wr.heap.size + 1 + 1, 0, none⟩) 2 2, .slice (some ⟨wr.heap.size + 1 + 1 + 1, 0, none⟩) 2 2] 44)).alloc (.cells #[.bool false, .bool true] 4)) := ((((((Below.refl _ _).alloc (Nat.le_refl _) _).alloc (by simp) _).alloc (by simp; omega) _).alloc (by simp; omega) _).alloc (by simp; omega) _).alloc (by simp; omega) _
  have hA : ((((((wr.alloc (.cells #[.int .i64 2, .int .i64 3] 3)).alloc (.cells #[.int .u8 1, .int .u8 0, .int .u8 0, .int .u8 0, .int .u8 0, .int .u8 0, .int .u8 0, .int .u8 0, .int .u8 2, .int .u8 0, .int .u8 0, .int .u8 0, .int .u8 0, .int .u8 0, .int .u8 0, .int .u8 0] 41)).alloc (.cells #[.int .u8 0, .int .u8 0] 5)).alloc (.cells #[.int .u8 1, .int .u8 0] 5)).alloc (.cells #[.slice (some ⟨wr.heap.size + 1 + 1, 0, none⟩) 2 2, .slice (some ⟨wr.heap.size + 1 + 1 + 1, 0, none⟩) 2 2] 44)).alloc (.cells #[.bool false, .bool true] 4)).heap[wr.heap.size]? = some (.cells #[.int .i64 2, .int .i64 3] 3 (0, 0)) := by
    repeat (first | exact alloc_at rfl | refine (allocOld _ _ _ (by simp; try omega)).trans ?_)
  have hK : ((((((wr.alloc (.cells #[.int .i64 2, .int .i64 3] 3)).alloc (.cells #[.int .u8 1, .int .u8 0, .int .u8 0, .int .u8 0, .int .u8 0, .int .u8 0, .int .u8 0, .int .u8 0, .int .u8 2, .int .u8 0, .int .u8 0, .int .u8 0, .int .u8 0, .int .u8 0, .int .u8 0, .int .u8 0] 41)).alloc (.cells #[.int .u8 0, .int .u8 0] 5)).alloc (.cells #[.int .u8 1, .int .u8 0] 5)).alloc (.cells #[.slice (some ⟨wr.heap.size + 1 + 1, 0, none⟩) 2 2, .slice (some ⟨wr.heap.size + 1 + 1 + 1, 0, none⟩) 2 2] 44)).alloc (.cells #[.bool false, .bool true] 4)).heap[wr.heap.size + 1]? = some (.cells #[.int .u8 1, .int .u8 0, .int .u8 0, .int .u8 0, .int .u8 0, .int .u8 0, .int .u8 0, .int .u8 0, .int .u8 2, .int .u8 0, .int .u8 0, .int .u8 0, .int .u8 0, .int .u8 0, .int .u8 0, .int .u8 0] 41 (0, 0)) := by
    refine (allocOld _ _ _ (by simp)).trans ((allocOld _ _ _ (by simp)).trans ((allocOld _ _ _ (by simp)).trans ((allocOld _ _ _ (by simp)).trans (alloc_at (by simp)))))
  have hG : ((((((wr.alloc (.cells #[.int .i64 2, .int .i64 3] 3)).alloc (.cells #[.int .u8 1, .int .u8 0, .int .u8 0, .int .u8 0, .int .u8 0, .int .u8 0, .int .u8 0, .int .u8 0, .int .u8 2, .int .u8 0, .int .u8 0, .int .u8 0, .int .u8 0, .int .u8 0, .int .u8 0, .int .u8 0] 41)).alloc (.cells #[.int .u8 0, .int .u8 0] 5)).alloc (.cells #[.int .u8 1, .int .u8 0] 5)).alloc (.cells #[.slice (some ⟨wr.heap.size + 1 + 1, 0, none⟩) 2 2, .slice (some ⟨wr.heap.size + 1 + 1 + 1, 0, none⟩) 2 2] 44)).alloc (.cells #[.bool false, .bool true] 4)).heap[wr.heap.size + 1 + 1 + 1 + 1 + 1]? = some (.cells #[.bool false, .bool true] 4 (0, 0)) := alloc_at (by simp)
  have h := agreeN [[1, 0, 0, 0, 0, 0, 0, 0], [2, 0, 0, 0, 0, 0, 0, 0]] [false, true] [0, 0, 0, 0, 0, 0, 0, 0] (some ⟨wr.heap.size, 0, none⟩) (some ⟨wr.heap.size + 1, 0, none⟩) (some ⟨wr.heap.size + 1 + 1 + 1 + 1, 0, none⟩) (some ⟨wr.heap.size + 1 + 1 + 1 + 1 + 1, 0, none⟩) 2 2 2 2 2 2 5 [2, 3] ((((((wr.alloc (.cells #[.int .i64 2, .int .i64 3] 3)).alloc (.cells #[.int .u8 1, .int .u8 0, .int .u8 0, .int .u8 0, .int .u8 0, .int .u8 0, .int .u8 0, .int .u8 0, .int .u8 2, .int .u8 0, .int .u8 0, .int .u8 0, .int .u8 0, .int .u8 0, .int .u8 0, .int .u8 0] 41)).alloc (.cells #[.int .u8 0, .int .u8 0] 5)).alloc (.cells #[.int .u8 1, .int .u8 0] 5)).alloc (.cells #[.slice (some ⟨wr.heap.size + 1 + 1, 0, none⟩) 2 2, .slice (some ⟨wr.heap.size + 1 + 1 + 1, 0, none⟩) 2 2] 44)).alloc (.cells #[.bool false, .bool true] 4)) ⟨rfl, fun b hb => by simp at hb; omega⟩ (Sl.of_block hA rfl (by decide) rfl) (fits_lit _ (by decide)) (by decide) (by decide) (by decide) (by decide) (Sln.of_block hK rfl (by decide) (by simp [digL]) rfl) (fun k hk => by simp at hk; rcases hk with rfl | rfl <;> exact ⟨rfl, fun b hb => by simp at hb; omega⟩) (by decide) (Sl.of_block hG rfl (by decide) rfl)
  refine h.mono ?_
  rintro e w' ⟨rfl, h2⟩
  exact ⟨by rfl, hb.trans (h2.mono hb.size)⟩
end Go.Proofs.YtpnegfocmaecbaaDoor
