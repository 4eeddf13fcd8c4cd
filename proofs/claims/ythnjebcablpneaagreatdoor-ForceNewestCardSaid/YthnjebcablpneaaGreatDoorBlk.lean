/- Blocks: what a new one holds, and holds still behind a call. -/
import Derived.Test.YthnjebcablpneaaGreatDoorBase
set_option maxRecDepth 100000
namespace Go.Proofs.YthnjebcablpneaaGreatDoor
open Go.RowKit
theorem below_of_drew {B : Nat} {w w' : World} (h : Below B w.drew w') : Below B w w' := ⟨h.os, h.tape, h.output, h.size, h.block⟩
theorem cell_at {w : World} {g : Nat} {t : TypeId} {cs : Array Value} (h : w.heap[g]? = some (.cells cs t (0, 0))) (i : Nat) : w.cell? ⟨g, i, none⟩ = cs[i]? := cell_of_row w g i cs t (0, 0) h
theorem frz_at {w : World} {g : Nat} {t : TypeId} {cs : Array Value} (h : w.heap[g]? = some (.cells cs t (0, 0))) (i : Nat) : w.frozen? ⟨g, i, none⟩ = false := frozen_of_row w g i cs t h
theorem al_fst (w : World) (a b : Obj) : ((w.alloc a).alloc b).heap[w.heap.size]? = some a := by
  have : ((w.heap.push a).push b)[w.heap.size]? = some a := by rw [Array.getElem?_push, if_neg (by rw [Array.size_push]; omega), Array.getElem?_push, if_pos rfl]
  exact this
theorem al_snd (w : World) (a b : Obj) : ((w.alloc a).alloc b).heap[w.heap.size + 1]? = some b := by
  have : ((w.heap.push a).push b)[w.heap.size + 1]? = some b := by rw [Array.getElem?_push, if_pos (by rw [Array.size_push])]
  exact this
theorem al_size (w : World) (a b : Obj) : ((w.alloc a).alloc b).heap.size = w.heap.size + 2 := by
  have : ((w.heap.push a).push b).size = w.heap.size + 2 := by rw [Array.size_push, Array.size_push]
  exact this
theorem al_below (w : World) (a b : Obj) : Below w.heap.size w ((w.alloc a).alloc b) :=
  ((Below.refl _ w).alloc (Nat.le_refl _) _).alloc (by have : (w.heap.push a).size = w.heap.size + 1 := Array.size_push _; show w.heap.size ≤ (w.heap.push a).size; omega) _
theorem last_stays {w w1 : World} {o : Obj} {g : Nat} (hg : w.heap.size = g) (hb : Below (w.alloc o).heap.size (w.alloc o) w1) : w1.heap[g]? = some o := by
  subst hg
  exact (hb.block _ (by have : (w.heap.push o).size = w.heap.size + 1 := Array.size_push _; show w.heap.size < (w.heap.push o).size; omega)).trans (heap_alloc_new w o)
theorem blk_below' {w w' : World} {g : Nat} {o : Obj} (h : w.heap[g]? = some o) (hb : Below w.heap.size w w') : w'.heap[g]? = some o := by
  have hl : g < w.heap.size := by
    rcases Nat.lt_or_ge g w.heap.size with h' | h'
    · exact h'
    · rw [Array.getElem?_eq_none h'] at h; cases h
  exact (hb.block g hl).trans h
theorem blkC {w : World} {g : Nat} {t : TypeId} {cs : Array Value} (h : w.heap[g]? = some (.cells cs t (0, 0))) (i : Nat) : w.cell? ⟨g, i, none⟩ = cs[i]? := cell_of_row w g i cs t (0, 0) h
theorem blkF {w : World} {g : Nat} {t : TypeId} {cs : Array Value} (h : w.heap[g]? = some (.cells cs t (0, 0))) (i : Nat) : w.frozen? ⟨g, i, none⟩ = false := frozen_of_row w g i cs t h
theorem row8 {w : World} {g : Nat} {t : TypeId} {a0 a1 a2 a3 a4 a5 a6 a7 v0 v1 v2 v3 v4 v5 v6 v7 : Value} (h : w.heap[g]? = some (.cells #[a0, a1, a2, a3, a4, a5, a6, a7] t (0, 0))) :
    ((((((((w.setCell ⟨g, 0, none⟩ v0).setCell ⟨g, 1, none⟩ v1).setCell ⟨g, 2, none⟩ v2).setCell ⟨g, 3, none⟩ v3).setCell ⟨g, 4, none⟩ v4).setCell ⟨g, 5, none⟩ v5).setCell ⟨g, 6, none⟩ v6).setCell ⟨g, 7, none⟩ v7).heap[g]? = some (.cells #[v0, v1, v2, v3, v4, v5, v6, v7] t (0, 0)) := by
  have h0 := heap_setCell_same _ g 0 _ t v0 h
  have h1 := heap_setCell_same _ g 1 _ t v1 h0
  have h2 := heap_setCell_same _ g 2 _ t v2 h1
  have h3 := heap_setCell_same _ g 3 _ t v3 h2
  have h4 := heap_setCell_same _ g 4 _ t v4 h3
  have h5 := heap_setCell_same _ g 5 _ t v5 h4
  have h6 := heap_setCell_same _ g 6 _ t v6 h5
  have h7 := heap_setCell_same _ g 7 _ t v7 h6
  simpa using h7
theorem below8 {B g : Nat} {a w : World} {v0 v1 v2 v3 v4 v5 v6 v7 : Value} (h : Below B a w) (hg : B ≤ g) :
    Below B a ((((((((w.setCell ⟨g, 0, none⟩ v0).setCell ⟨g, 1, none⟩ v1).setCell ⟨g, 2, none⟩ v2).setCell ⟨g, 3, none⟩ v3).setCell ⟨g, 4, none⟩ v4).setCell ⟨g, 5, none⟩ v5).setCell ⟨g, 6, none⟩ v6).setCell ⟨g, 7, none⟩ v7) :=
  (((((((h.setCell hg _).setCell hg _).setCell hg _).setCell hg _).setCell hg _).setCell hg _).setCell hg _).setCell hg _
end Go.Proofs.YthnjebcablpneaaGreatDoor
