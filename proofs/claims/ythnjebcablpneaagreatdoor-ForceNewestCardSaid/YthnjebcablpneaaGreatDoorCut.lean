/- Contracts: a position, cut. -/
import Derived.Test.YthnjebcablpneaaGreatDoorNil
import Derived.Test.YthnjebcablpneaaGreatDoorEvY
import Derived.RegionTactic
import Derived.Test.YthnjebcablpneaaGreatDoorBlk
set_option maxRecDepth 100000
namespace Go.Proofs.YthnjebcablpneaaGreatDoor
open Go.RowKit
set_option maxHeartbeats 4000000 in
theorem cutG (A B C : Option Addr) (n c m d k e n' m' k' : Nat) (r0 r1 r2 r3 r4 : Int) (w : World) (e1 : (if (70 : Int) < (n : Int) then (70 : Int) else (n : Int)) = (n' : Int)) (e2 : (if (10 : Int) < (m : Int) then (10 : Int) else (m : Int)) = (m' : Int)) (e3 : (if (10 : Int) < (k : Int) then (10 : Int) else (k : Int)) = (k' : Int)) (b1 : n' ≤ c) (b2 : m' ≤ d) (b3 : k' ≤ e) :
    Calls Tryz.prog 8 #[.agg #[.slice A n c, .slice B m d, .slice C k e, .int .i64 r0, .int .i64 r1, .int .i64 r2, .int .i64 r3, .int .u64 r4]] w fun en w' => en = .returned (.agg #[.slice A n' c, .slice B m' d, .slice C k' e, .int .i64 r0, .int .i64 r1, .int .i64 r2, .int .i64 r3, .int .u64 r4]) ∧ Below w.heap.size w w' := by
  have hb0 := al_below w (.cells #[.slice A n c, .slice B m d, .slice C k e, .int .i64 r0, .int .i64 r1, .int .i64 r2, .int .i64 r3, .int .u64 r4] 29) (.cells #[.slice none 0 0, .slice none 0 0, .slice none 0 0, .int .i64 0, .int .i64 0, .int .i64 0, .int .i64 0, .int .u64 0] 29)
  have hg0 := al_fst w (.cells #[.slice A n c, .slice B m d, .slice C k e, .int .i64 r0, .int .i64 r1, .int .i64 r2, .int .i64 r3, .int .u64 r4] 29) (.cells #[.slice none 0 0, .slice none 0 0, .slice none 0 0, .int .i64 0, .int .i64 0, .int .i64 0, .int .i64 0, .int .u64 0] 29)
  have hg1 := al_snd w (.cells #[.slice A n c, .slice B m d, .slice C k e, .int .i64 r0, .int .i64 r1, .int .i64 r2, .int .i64 r3, .int .u64 r4] 29) (.cells #[.slice none 0 0, .slice none 0 0, .slice none 0 0, .int .i64 0, .int .i64 0, .int .i64 0, .int .i64 0, .int .u64 0] 29)
  have HB0 := Lib.hid hb0
  have HG0 := Lib.hid hg0
  have HG1 := Lib.hid hg1
  clear hb0 hg0 hg1
  go_enter Tryz.func8, Tryz.ntmps8
  go_wp2_with fail
  generalize (w.alloc (.cells #[.slice A n c, .slice B m d, .slice C k e, .int .i64 r0, .int .i64 r1, .int .i64 r2, .int .i64 r3, .int .u64 r4] 29)).alloc (.cells #[.slice none 0 0, .slice none 0 0, .slice none 0 0, .int .i64 0, .int .i64 0, .int .i64 0, .int .i64 0, .int .u64 0] 29) = W0 at HB0 HG0 HG1 ⊢
  have HT : Hid (∀ W : World, W.heap = W0.heap → W.cell? ⟨w.heap.size, 0, none⟩ = some (.slice A n c) ∧ W.cell? ⟨w.heap.size, 1, none⟩ = some (.slice B m d) ∧ W.cell? ⟨w.heap.size, 2, none⟩ = some (.slice C k e)) := fun W hW => by
    have hblk : W.heap[w.heap.size]? = some (.cells #[.slice A n c, .slice B m d, .slice C k e, .int .i64 r0, .int .i64 r1, .int .i64 r2, .int .i64 r3, .int .u64 r4] 29 (0, 0)) := by rw [hW]; exact HG0.out
    exact ⟨blkC hblk 0, blkC hblk 1, blkC hblk 2⟩
  refine wp_region_any (by kernel_rfl) ?_
  change wpAny _ _ _ _ _ _ _ W0.drew
  refine wpAny_take (i := 0) rfl (by kernel_rfl) (by kernel_rfl) (by kernel_rfl) (fun _ _ _ h => h) (Or.inl ⟨by kernel_rfl, fun W => by (go_simp; try with_reducible rfl)⟩) ?_
  try simp only [Act.put, List.getElem_toArray, List.getElem_cons_succ, List.getElem_cons_zero, List.setIfInBounds_toArray, List.set_cons_zero, List.set_cons_succ]
  refine Ev.wpAny_keep (i := 1) rfl (by kernel_rfl) (by kernel_rfl) (by kernel_rfl) (by kernel_rfl) (fun _ _ _ h => h) (by kernel_rfl) (fun W hW => by (obtain ⟨c0, c1, c2⟩ := HT.out W hW; go_simp; try with_reducible rfl)) ?_
  try simp only [Act.put, List.getElem_toArray, List.getElem_cons_succ, List.getElem_cons_zero, List.setIfInBounds_toArray, List.set_cons_zero, List.set_cons_succ]
  refine wpAny_take (i := 2) rfl (by kernel_rfl) (by kernel_rfl) (by kernel_rfl) (fun _ _ _ h => h) (Or.inl ⟨by kernel_rfl, fun W => by (go_simp; try with_reducible rfl)⟩) ?_
  try simp only [Act.put, List.getElem_toArray, List.getElem_cons_succ, List.getElem_cons_zero, List.setIfInBounds_toArray, List.set_cons_zero, List.set_cons_succ]
  refine Ev.wpAny_keep (i := 3) rfl (by kernel_rfl) (by kernel_rfl) (by kernel_rfl) (by kernel_rfl) (fun _ _ _ h => h) (by kernel_rfl) (fun W hW => by (obtain ⟨c0, c1, c2⟩ := HT.out W hW; go_simp; try with_reducible rfl)) ?_
  try simp only [Act.put, List.getElem_toArray, List.getElem_cons_succ, List.getElem_cons_zero, List.setIfInBounds_toArray, List.set_cons_zero, List.set_cons_succ]
  refine wpAny_take (i := 4) rfl (by kernel_rfl) (by kernel_rfl) (by kernel_rfl) (fun _ _ _ h => h) (Or.inl ⟨by kernel_rfl, fun W => by (go_simp; try with_reducible rfl)⟩) ?_
  try simp only [Act.put, List.getElem_toArray, List.getElem_cons_succ, List.getElem_cons_zero, List.setIfInBounds_toArray, List.set_cons_zero, List.set_cons_succ]
  refine wpAny_take (i := 5) rfl (by kernel_rfl) (by kernel_rfl) (by kernel_rfl) (fun _ _ _ h => h) (Or.inl ⟨by kernel_rfl, fun W => by (go_simp; try with_reducible rfl)⟩) ?_
  try simp only [Act.put, List.getElem_toArray, List.getElem_cons_succ, List.getElem_cons_zero, List.setIfInBounds_toArray, List.set_cons_zero, List.set_cons_succ]
  refine wpAny_take (i := 6) rfl (by kernel_rfl) (by kernel_rfl) (by kernel_rfl) (fun _ _ _ h => h) (Or.inl ⟨by kernel_rfl, fun W => by (go_simp; try with_reducible rfl)⟩) ?_
  try simp only [Act.put, List.getElem_toArray, List.getElem_cons_succ, List.getElem_cons_zero, List.setIfInBounds_toArray, List.set_cons_zero, List.set_cons_succ]
  refine wpAny_take (i := 7) rfl (by kernel_rfl) (by kernel_rfl) (by kernel_rfl) (fun _ _ _ h => h) (Or.inl ⟨by kernel_rfl, fun W => by (go_simp; try with_reducible rfl)⟩) ?_
  try simp only [Act.put, List.getElem_toArray, List.getElem_cons_succ, List.getElem_cons_zero, List.setIfInBounds_toArray, List.set_cons_zero, List.set_cons_succ]
  refine Ev.wpAny_keep (i := 8) rfl (by kernel_rfl) (by kernel_rfl) (by kernel_rfl) (by kernel_rfl) (fun _ _ _ h => h) (by kernel_rfl) (fun W hW => by (obtain ⟨c0, c1, c2⟩ := HT.out W hW; go_simp; try with_reducible rfl)) ?_
  try simp only [Act.put, List.getElem_toArray, List.getElem_cons_succ, List.getElem_cons_zero, List.setIfInBounds_toArray, List.set_cons_zero, List.set_cons_succ]
  refine wpAny_take (i := 9) rfl (by kernel_rfl) (by kernel_rfl) (by kernel_rfl) (fun _ _ _ h => h) (Or.inl ⟨by kernel_rfl, fun W => by (go_simp; try with_reducible rfl)⟩) ?_
  try simp only [Act.put, List.getElem_toArray, List.getElem_cons_succ, List.getElem_cons_zero, List.setIfInBounds_toArray, List.set_cons_zero, List.set_cons_succ]
  refine Ev.wpAny_keep (i := 10) rfl (by kernel_rfl) (by kernel_rfl) (by kernel_rfl) (by kernel_rfl) (fun _ _ _ h => h) (by kernel_rfl) (fun W hW => by (obtain ⟨c0, c1, c2⟩ := HT.out W hW; go_simp; try with_reducible rfl)) ?_
  try simp only [Act.put, List.getElem_toArray, List.getElem_cons_succ, List.getElem_cons_zero, List.setIfInBounds_toArray, List.set_cons_zero, List.set_cons_succ]
  refine wpAny_take (i := 11) rfl (by kernel_rfl) (by kernel_rfl) (by kernel_rfl) (fun _ _ _ h => h) (Or.inl ⟨by kernel_rfl, fun W => by (go_simp; try with_reducible rfl)⟩) ?_
  try simp only [Act.put, List.getElem_toArray, List.getElem_cons_succ, List.getElem_cons_zero, List.setIfInBounds_toArray, List.set_cons_zero, List.set_cons_succ]
  refine wpAny_take (i := 12) rfl (by kernel_rfl) (by kernel_rfl) (by kernel_rfl) (fun _ _ _ h => h) (Or.inl ⟨by kernel_rfl, fun W => by (go_simp; try with_reducible rfl)⟩) ?_
  try simp only [Act.put, List.getElem_toArray, List.getElem_cons_succ, List.getElem_cons_zero, List.setIfInBounds_toArray, List.set_cons_zero, List.set_cons_succ]
  refine wpAny_take (i := 13) rfl (by kernel_rfl) (by kernel_rfl) (by kernel_rfl) (fun _ _ _ h => h) (Or.inl ⟨by kernel_rfl, fun W => by (go_simp; try with_reducible rfl)⟩) ?_
  try simp only [Act.put, List.getElem_toArray, List.getElem_cons_succ, List.getElem_cons_zero, List.setIfInBounds_toArray, List.set_cons_zero, List.set_cons_succ]
  refine wpAny_take (i := 14) rfl (by kernel_rfl) (by kernel_rfl) (by kernel_rfl) (fun _ _ _ h => h) (Or.inl ⟨by kernel_rfl, fun W => by (go_simp; try with_reducible rfl)⟩) ?_
  try simp only [Act.put, List.getElem_toArray, List.getElem_cons_succ, List.getElem_cons_zero, List.setIfInBounds_toArray, List.set_cons_zero, List.set_cons_succ]
  refine Ev.wpAny_keep (i := 15) rfl (by kernel_rfl) (by kernel_rfl) (by kernel_rfl) (by kernel_rfl) (fun _ _ _ h => h) (by kernel_rfl) (fun W hW => by (obtain ⟨c0, c1, c2⟩ := HT.out W hW; go_simp; try with_reducible rfl)) ?_
  try simp only [Act.put, List.getElem_toArray, List.getElem_cons_succ, List.getElem_cons_zero, List.setIfInBounds_toArray, List.set_cons_zero, List.set_cons_succ]
  refine wpAny_take (i := 16) rfl (by kernel_rfl) (by kernel_rfl) (by kernel_rfl) (fun _ _ _ h => h) (Or.inl ⟨by kernel_rfl, fun W => by (go_simp; try with_reducible rfl)⟩) ?_
  try simp only [Act.put, List.getElem_toArray, List.getElem_cons_succ, List.getElem_cons_zero, List.setIfInBounds_toArray, List.set_cons_zero, List.set_cons_succ]
  refine Ev.wpAny_keep (i := 17) rfl (by kernel_rfl) (by kernel_rfl) (by kernel_rfl) (by kernel_rfl) (fun _ _ _ h => h) (by kernel_rfl) (fun W hW => by (obtain ⟨c0, c1, c2⟩ := HT.out W hW; go_simp; try with_reducible rfl)) ?_
  try simp only [Act.put, List.getElem_toArray, List.getElem_cons_succ, List.getElem_cons_zero, List.setIfInBounds_toArray, List.set_cons_zero, List.set_cons_succ]
  refine wpAny_take (i := 18) rfl (by kernel_rfl) (by kernel_rfl) (by kernel_rfl) (fun _ _ _ h => h) (Or.inl ⟨by kernel_rfl, fun W => by (go_simp; try with_reducible rfl)⟩) ?_
  try simp only [Act.put, List.getElem_toArray, List.getElem_cons_succ, List.getElem_cons_zero, List.setIfInBounds_toArray, List.set_cons_zero, List.set_cons_succ]
  refine wpAny_take (i := 19) rfl (by kernel_rfl) (by kernel_rfl) (by kernel_rfl) (fun _ _ _ h => h) (Or.inl ⟨by kernel_rfl, fun W => by (go_simp; try with_reducible rfl)⟩) ?_
  try simp only [Act.put, List.getElem_toArray, List.getElem_cons_succ, List.getElem_cons_zero, List.setIfInBounds_toArray, List.set_cons_zero, List.set_cons_succ]
  refine wpAny_take (i := 20) rfl (by kernel_rfl) (by kernel_rfl) (by kernel_rfl) (fun _ _ _ h => h) (Or.inl ⟨by kernel_rfl, fun W => by (go_simp; try with_reducible rfl)⟩) ?_
  try simp only [Act.put, List.getElem_toArray, List.getElem_cons_succ, List.getElem_cons_zero, List.setIfInBounds_toArray, List.set_cons_zero, List.set_cons_succ]
  refine wpAny_take (i := 21) rfl (by kernel_rfl) (by kernel_rfl) (by kernel_rfl) (fun _ _ _ h => h) (Or.inl ⟨by kernel_rfl, fun W => by (go_simp; try with_reducible rfl)⟩) ?_
  try simp only [Act.put, List.getElem_toArray, List.getElem_cons_succ, List.getElem_cons_zero, List.setIfInBounds_toArray, List.set_cons_zero, List.set_cons_succ]
  have hd0 : W0.heap[w.heap.size]? = some (.cells #[.slice A n c, .slice B m d, .slice C k e, .int .i64 r0, .int .i64 r1, .int .i64 r2, .int .i64 r3, .int .u64 r4] 29 (0, 0)) := HG0.out
  have c0 := blkC hd0 0
  have c1 := blkC hd0 1
  have c2 := blkC hd0 2
  have f0 := blkF hd0 0
  have f1 := blkF hd0 1
  have f2 := blkF hd0 2
  refine wpAny_ready (rs := [22]) (by kernel_rfl) (by simp) (AllReady.cons rfl (fun K hK => ?_) AllReady.nil)
  go_simp
  refine hK _ _ ?_
  clear hK K
  refine wpAny_take (i := 23) rfl (by kernel_rfl) (by kernel_rfl) (by kernel_rfl) (fun _ _ _ h => h) (Or.inl ⟨by kernel_rfl, fun W => by (go_simp; try with_reducible rfl)⟩) ?_
  try simp only [Act.put, List.getElem_toArray, List.getElem_cons_succ, List.getElem_cons_zero, List.setIfInBounds_toArray, List.set_cons_zero, List.set_cons_succ]
  refine wpAny_ready (rs := [24]) (by kernel_rfl) (by simp) (AllReady.cons rfl (fun K hK => ?_) AllReady.nil)
  go_simp
  refine hK _ _ ?_
  clear hK K
  refine wpAny_take (i := 25) rfl (by kernel_rfl) (by kernel_rfl) (by kernel_rfl) (fun _ _ _ h => h) (Or.inl ⟨by kernel_rfl, fun W => by (go_simp; try with_reducible rfl)⟩) ?_
  try simp only [Act.put, List.getElem_toArray, List.getElem_cons_succ, List.getElem_cons_zero, List.setIfInBounds_toArray, List.set_cons_zero, List.set_cons_succ]
  refine wpAny_ready (rs := [26]) (by kernel_rfl) (by simp) (AllReady.cons rfl (fun K hK => ?_) AllReady.nil)
  go_simp
  refine hK _ _ ?_
  clear hK K
  clear c0 c1 c2 f0 f1 f2
  have hd1 : (W0.setCell ⟨w.heap.size, 0, none⟩ (.slice A n' c)).heap[w.heap.size]? = some (.cells #[.slice A n' c, .slice B m d, .slice C k e, .int .i64 r0, .int .i64 r1, .int .i64 r2, .int .i64 r3, .int .u64 r4] 29 (0, 0)) := by simpa using heap_setCell_same W0 w.heap.size 0 _ _ (.slice A n' c) hd0
  have hd2 : ((W0.setCell ⟨w.heap.size, 0, none⟩ (.slice A n' c)).setCell ⟨w.heap.size, 1, none⟩ (.slice B m' d)).heap[w.heap.size]? = some (.cells #[.slice A n' c, .slice B m' d, .slice C k e, .int .i64 r0, .int .i64 r1, .int .i64 r2, .int .i64 r3, .int .u64 r4] 29 (0, 0)) := by simpa using heap_setCell_same (W0.setCell ⟨w.heap.size, 0, none⟩ (.slice A n' c)) w.heap.size 1 _ _ (.slice B m' d) hd1
  have hd3 : (((W0.setCell ⟨w.heap.size, 0, none⟩ (.slice A n' c)).setCell ⟨w.heap.size, 1, none⟩ (.slice B m' d)).setCell ⟨w.heap.size, 2, none⟩ (.slice C k' e)).heap[w.heap.size]? = some (.cells #[.slice A n' c, .slice B m' d, .slice C k' e, .int .i64 r0, .int .i64 r1, .int .i64 r2, .int .i64 r3, .int .u64 r4] 29 (0, 0)) := by simpa using heap_setCell_same ((W0.setCell ⟨w.heap.size, 0, none⟩ (.slice A n' c)).setCell ⟨w.heap.size, 1, none⟩ (.slice B m' d)) w.heap.size 2 _ _ (.slice C k' e) hd2
  have he3 : (((W0.setCell ⟨w.heap.size, 0, none⟩ (.slice A n' c)).setCell ⟨w.heap.size, 1, none⟩ (.slice B m' d)).setCell ⟨w.heap.size, 2, none⟩ (.slice C k' e)).drew.heap[w.heap.size + 1]? = some (.cells #[.slice none 0 0, .slice none 0 0, .slice none 0 0, .int .i64 0, .int .i64 0, .int .i64 0, .int .i64 0, .int .u64 0] 29 (0, 0)) := by
    show (((W0.setCell ⟨w.heap.size, 0, none⟩ (.slice A n' c)).setCell ⟨w.heap.size, 1, none⟩ (.slice B m' d)).setCell ⟨w.heap.size, 2, none⟩ (.slice C k' e)).heap[w.heap.size + 1]? = _
    rw [heap_setCell_other _ _ _ _ (by simp), heap_setCell_other _ _ _ _ (by simp), heap_setCell_other _ _ _ _ (by simp)]
    exact HG1.out
  have hd4 : (((W0.setCell ⟨w.heap.size, 0, none⟩ (.slice A n' c)).setCell ⟨w.heap.size, 1, none⟩ (.slice B m' d)).setCell ⟨w.heap.size, 2, none⟩ (.slice C k' e)).drew.heap[w.heap.size]? = some (.cells #[.slice A n' c, .slice B m' d, .slice C k' e, .int .i64 r0, .int .i64 r1, .int .i64 r2, .int .i64 r3, .int .u64 r4] 29 (0, 0)) := hd3
  have HB3 : Hid (Below w.heap.size w (((W0.setCell ⟨w.heap.size, 0, none⟩ (.slice A n' c)).setCell ⟨w.heap.size, 1, none⟩ (.slice B m' d)).setCell ⟨w.heap.size, 2, none⟩ (.slice C k' e)).drew) := (((HB0.out.setCell (Nat.le_refl _) _).setCell (Nat.le_refl _) _).setCell (Nat.le_refl _) _).drew
  refine wpAny_done (by kernel_rfl) ?_ _
  rename_i hK0
  refine hK0 _ _ ?_
  generalize (((W0.setCell ⟨w.heap.size, 0, none⟩ (.slice A n' c)).setCell ⟨w.heap.size, 1, none⟩ (.slice B m' d)).setCell ⟨w.heap.size, 2, none⟩ (.slice C k' e)).drew = W3 at hd4 he3 HB3 ⊢
  clear hd0 hd1 hd2 hd3 HT HG0 HG1 HB0
  have c0 := blkC hd4 0
  have k0 := blkC he3 0
  have f0 := blkF he3 0
  have c1 := blkC hd4 1
  have k1 := blkC he3 1
  have f1 := blkF he3 1
  have c2 := blkC hd4 2
  have k2 := blkC he3 2
  have f2 := blkF he3 2
  have c3 := blkC hd4 3
  have k3 := blkC he3 3
  have f3 := blkF he3 3
  have c4 := blkC hd4 4
  have k4 := blkC he3 4
  have f4 := blkF he3 4
  have c5 := blkC hd4 5
  have k5 := blkC he3 5
  have f5 := blkF he3 5
  have c6 := blkC hd4 6
  have k6 := blkC he3 6
  have f6 := blkF he3 6
  have c7 := blkC hd4 7
  have k7 := blkC he3 7
  have f7 := blkF he3 7
  clear hd4 he3
  go_wp2_with fail
  have hg : w.heap.size ≤ w.heap.size + 1 := Nat.le_add_right _ _
  exact bodyPost_ret (v := .agg #[.slice A n' c, .slice B m' d, .slice C k' e, .int .i64 r0, .int .i64 r1, .int .i64 r2, .int .i64 r3, .int .u64 r4]) (by simp [results, Tryz.results8, go_sem, k0, f0, k1, f1, k2, f2, k3, f3, k4, f4, k5, f5, k6, f6, k7, f7]) rfl ⟨rfl, below8 HB3.out hg⟩
theorem cut8 (A B C : Option Addr) (n c m d k e : Nat) (r0 r1 r2 r3 r4 : Int) (w : World) (hn : n ≤ c) (hm : m ≤ d) (hk : k ≤ e) :
    Calls Tryz.prog 8 #[.agg #[.slice A n c, .slice B m d, .slice C k e, .int .i64 r0, .int .i64 r1, .int .i64 r2, .int .i64 r3, .int .u64 r4]] w fun en w' => en = .returned (.agg #[.slice A (min n 70) c, .slice B (min m 10) d, .slice C (min k 10) e, .int .i64 r0, .int .i64 r1, .int .i64 r2, .int .i64 r3, .int .u64 r4]) ∧ Below w.heap.size w w' :=
  cutG A B C n c m d k e (min n 70) (min m 10) (min k 10) r0 r1 r2 r3 r4 w (by split <;> omega) (by split <;> omega) (by split <;> omega) (by omega) (by omega) (by omega)
end Go.Proofs.YthnjebcablpneaaGreatDoor
