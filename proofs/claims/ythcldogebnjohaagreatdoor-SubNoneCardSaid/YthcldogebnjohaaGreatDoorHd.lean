/- Tables within tables: from the innermost one on (a range over a function): what comes. -/
import Derived.RangeFuncNested
import Derived.RangeFuncBound
import Derived.RangeFuncCalls
import Derived.RangeFuncLeaves
import Derived.Shelf.Abstract
import Derived.WalkKit
import Derived.OwnWalkIn
import Derived.TacticsInMore
import Derived.LoopNIn
import Derived.LoopIn
import Derived.RangeFuncBox
import Derived.Deep.OwnRows
import Derived.Lib.SmallJoins
import Derived.Test.YthcldogebnjohaaGreatDoorProg
import Derived.Test.YthcldogebnjohaaGreatDoorYcxP
import Derived.Test.YthcldogebnjohaaGreatDoorEnv
import Derived.Test.YthcldogebnjohaaGreatDoorEvV
section
set_option maxRecDepth 100000
namespace Go.Proofs.YthcldogebnjohaaGreatDoor
open Go.RowKit Go.Shelf
attribute [local go_sem] Oper.semAt_some
def dn (M k : Nat) : List (Fin (M + 1)) := (List.range k).map fun j => ⟨M - j, by omega⟩
theorem dn_succ (M k : Nat) : dn M (k + 1) = dn M k ++ [⟨M - k, by omega⟩] := by simp [dn, List.range_succ]
theorem dn_length (M k : Nat) : (dn M k).length = k := by simp [dn]
def KpO (n₀ B : Nat) (W W' : World) : Prop := Below n₀ W W' ∧ W'.heap[B]? = W.heap[B]?
theorem kpO_t {n₀ B : Nat} {A C D : World} (h : KpO n₀ B A C) (k : KpO n₀ B C D) : KpO n₀ B A D := ⟨h.1.trans k.1, k.2.trans h.2⟩
set_option maxHeartbeats 2000000 in
theorem outward1_in (F : Fence) (n : Nat) (h85 : F.fn 85) (hro : F.round = none) (hn : 1 ≤ n) (l B bs bl cap M n₀ : Nat) (hbs : bs < n₀) (hM : M ≤ 1000) (J Jx : List (Fin (M + 1)) → World → Prop)
    (hY : ∀ pre x W, J pre W → pre.length < M + 1 → YieldAt F (n - 1) Tryz.prog l #[.int .i64 (x.1 : Int), .pointer (some ⟨bl, x.1 * 10, none⟩)] W fun e W' =>
      (e = .returned (.bool true) ∧ J (pre ++ [x]) W' ∧ KpO n₀ B W W') ∨ (e = .returned (.bool false) ∧ Jx (pre ++ [x]) W'))
    (W : World) (hB : W.cell? ⟨B, 0, none⟩ = some (.pointer (some ⟨bs, 0, none⟩))) (hs : W.cell? ⟨bs, 0, none⟩ = some (.slice (some ⟨bl, 0, none⟩) (M + 1) cap)) (h0 : J [] W) :
    CallsIn F n Tryz.prog 85 #[.func (.yield l) #[] #[], .pointer (some ⟨B, 0, none⟩)] W fun e W' => (∃ v, e = .returned v) ∧
      ((∃ ys, ys = dn M (M + 1) ∧ J ys W') ∨ (∃ pre, (∃ k, k ≤ M + 1 ∧ pre = dn M k) ∧ Jx pre W')) := by
  refine callsIn_of_wp Tryz.func85 rfl h85 ?_ hro
  simp only [Tryz.ntmps85, List.size_toArray, List.length_cons, List.length_nil, Nat.reduceAdd, Nat.reduceSub, Array.replicate_succ, Array.replicate_zero, List.push_toArray, List.append_toArray, List.nil_append, List.cons_append]
  gi_wp2
  gi_loopw [3] (fun i wr => ∃ k : Nat, k ≤ M + 1 ∧ i = .int .i64 ((M : Int) - k) ∧ J (dn M k) wr ∧ KpO n₀ B W wr)
    (fun i _ => (1 + intOf i).toNat)
  case atStart => exact ⟨0, by omega, by simp, h0, Below.refl _ _, rfl⟩
  case round =>
    obtain ⟨k, hk, rfl, hJs, hnx⟩ := hrel
    have hBr : wr.cell? ⟨B, 0, none⟩ = some (.pointer (some ⟨bs, 0, none⟩)) := by simp only [World.cell?, hnx.2]; exact hB
    have hsr : wr.cell? ⟨bs, 0, none⟩ = some (.slice (some ⟨bl, 0, none⟩) (M + 1) cap) := (hnx.1.cell (p := ⟨bs, 0, none⟩) hbs).trans hs
    by_cases hlt : k ≤ M
    · obtain ⟨fn, tmps, assign, body, hy, hR⟩ := hY _ ⟨M - k, by omega⟩ wr hJs (by rw [dn_length]; omega)
      dsimp only at hy
      rw [show ((M - k : Nat) : Int) = (M : Int) - k by omega] at hy
      gi_wp2
      refine hR.mono ?_
      rintro e W3 (⟨rfl, hJ3, hk3⟩ | ⟨rfl, hJx3⟩)
      · gi_wp2
        go_roundw
        case rel => exact ⟨k + 1, by omega, by simp; omega, by rw [dn_succ]; exact hJ3, kpO_t hnx hk3⟩
        case measure => simp [intOf]; omega
      · gi_wp2
        refine bodyPost_ret (results_none rfl _ _ _) rfl ?_
        exact ⟨⟨_, rfl⟩, .inr ⟨_, ⟨k + 1, by omega, (dn_succ _ _).symm⟩, hJx3⟩⟩
    · obtain rfl : k = M + 1 := by omega
      gi_wp2
      go_end0
      exact ⟨⟨_, rfl⟩, .inl ⟨_, rfl, hJs⟩⟩
set_option maxHeartbeats 1000000 in
theorem outward_in (F : Fence) (n : Nat) (h59 : F.fn 59) (hro : F.round = none) (bs : Nat) (w : World) :
    CallsIn F n Tryz.prog 59 #[.pointer (some ⟨bs, 0, none⟩)] w fun e w' => e = .returned (.func (.func 85) #[] #[.pointer (some ⟨w.heap.size, 0, none⟩)]) ∧ w' = w.alloc (.cells #[.pointer (some ⟨bs, 0, none⟩)] 35) := by
  refine callsIn_of_wp Tryz.func59 rfl h59 ?_ hro
  simp only [Tryz.ntmps59, List.size_toArray, List.length_cons, List.length_nil, Nat.reduceAdd, Nat.reduceSub, Array.replicate_succ, Array.replicate_zero, List.push_toArray, List.append_toArray, List.nil_append, List.cons_append]
  gi_wp2
  go_ret
  exact ⟨rfl, rfl⟩
theorem outward_stops (F : Fence) (n : Nat) (h85 : F.fn 85) (hro : F.round = none) (hn : 1 ≤ n) (B bs bl cap M n₀ : Nat) (hbs : bs < n₀) (hM : M ≤ 1000) (w : World) (hBw : B < w.heap.size) (hn₀ : n₀ ≤ w.heap.size)
    (hB : w.cell? ⟨B, 0, none⟩ = some (.pointer (some ⟨bs, 0, none⟩))) (hs : w.cell? ⟨bs, 0, none⟩ = some (.slice (some ⟨bl, 0, none⟩) (M + 1) cap)) :
    SeqStopsK F n Tryz.prog 85 #[.pointer (some ⟨B, 0, none⟩)] (fun x : Fin (M + 1) => #[.int .i64 (x.1 : Int), .pointer (some ⟨bl, x.1 * 10, none⟩)]) (KpO n₀ B) (fun ys => ys = dn M (M + 1)) (fun pre => ∃ k, k ≤ M + 1 ∧ pre = dn M k) (M + 1) w := fun l J Jx W hW _ _ hY h0 =>
  outward1_in F n h85 hro hn l B bs bl cap M n₀ hbs hM J Jx hY W ((hW.cell (p := ⟨B, 0, none⟩) hBw).trans hB) ((hW.cell (p := ⟨bs, 0, none⟩) (by show bs < _; omega)).trans hs) h0
def wsum (l : List Int) : Int := l.foldl (fun s v => wrap64 (s + v)) 0
theorem wsum_snoc (l : List Int) (x : Int) : wsum (l ++ [x]) = wrap64 (wsum l + x) := by simp [wsum]
theorem run_mk2 (W : World) : (Instr.makeSlice 22 (.int .i64 2) (.int .i64 2)).run Tryz.prog W = .ok (.slice (some ⟨W.heap.size, 0, none⟩) 2 2) (W.alloc (.cells #[.int .i64 0, .int .i64 0] 3)) := by
  have h := Go.run_make_row' (P := Tryz.prog) 22 3 (.int .i64 0) 8 Tryz.underlying22 (by kernel_rfl) rfl .i64 .i64 2 (by decide) (by decide) W
  have e : madeCells #[Value.int .i64 0] 2 = #[.int .i64 0, .int .i64 0] := Array.toList_inj.1 ((toList_madeCells_one _ _).trans (by simp [List.replicate]))
  rw [e] at h
  exact h
theorem heap3 (w : World) (o1 o2 o3 : Obj) : (((w.alloc o1).alloc o2).alloc o3).heap[w.heap.size]? = some o1 ∧ (((w.alloc o1).alloc o2).alloc o3).heap[w.heap.size + 1]? = some o2 ∧ (((w.alloc o1).alloc o2).alloc o3).heap[w.heap.size + 1 + 1]? = some o3 := by
  have k1 := World.alloc_heap_new w o1
  have k2 := World.alloc_heap_new (w.alloc o1) o2
  have k3 := World.alloc_heap_new ((w.alloc o1).alloc o2) o3
  rw [World.size_alloc] at k2
  rw [World.size_alloc, World.size_alloc] at k3
  refine ⟨?_, ?_, k3⟩
  · rw [Below.heap_alloc _ _ _ (by rw [World.size_alloc, World.size_alloc]; omega), Below.heap_alloc _ _ _ (by rw [World.size_alloc]; omega)]; exact k1
  · rw [Below.heap_alloc _ _ _ (by rw [World.size_alloc, World.size_alloc]; omega)]; exact k2
theorem blk_kept {W W' : World} {k : Nat} {c : Array Value} {e : TypeId} {fz : Nat × Nat} {row : Option Nat} (h : W.heap[k]? = some (.cells c e fz)) (hg : W.grownBy W' row) (hr : ∀ r, row = some r → ∃ o : Obj, W.heap[r]? = some o ∧ o.isCells = false) : W'.heap[k]? = some (.cells c e fz) :=
  (hg.block k (Array.getElem?_eq_some_iff.1 h).1 (fun e => by obtain ⟨o, ho, hc⟩ := hr k e.symm; rw [h] at ho; cases ho; cases hc)).trans h
theorem cell_of {W : World} {k i : Nat} {c : Array Value} {e : TypeId} {fz : Nat × Nat} {v : Value} (h : W.heap[k]? = some (.cells c e fz)) (hv : c[i]? = some v) : W.cell? ⟨k, i, none⟩ = some v := by simp [World.cell?, h, hv]
theorem free_of {W : World} {k i : Nat} {c : Array Value} {e : TypeId} (h : W.heap[k]? = some (.cells c e)) : W.frozen? ⟨k, i, none⟩ = false := by simp [World.frozen?, h]
theorem set_blk {W : World} {k i : Nat} {c : Array Value} {e : TypeId} {v : Value} (h : W.heap[k]? = some (.cells c e)) : (W.setCell ⟨k, i, none⟩ v).heap[k]? = some (.cells (c.setIfInBounds i v) e) := Go.Joins.block_setCell h _
set_option maxHeartbeats 4000000 in
theorem held_in (F : Fence) (n : Nat) (h15 : F.fn 15) (h59 : F.fn 59) (h85 : F.fn 85) (hro : F.round = none) (hn : 3 ≤ n) (bs bl cap M : Nat) (fa fb : Nat → Int) (w : World) (hM : M ≤ 1000)
    (hs : w.cell? ⟨bs, 0, none⟩ = some (.slice (some ⟨bl, 0, none⟩) (M + 1) cap)) (hl : ∀ i, i ≤ M → ∃ b c, w.cell? ⟨bl, i * 10 + 9, none⟩ = some (.slice (some ⟨b, 0, none⟩) 2 c) ∧ w.cell? ⟨b, 0, none⟩ = some (.int .i64 (fa i)) ∧ w.cell? ⟨b, 1, none⟩ = some (.int .i64 (fb i))) :
    CallsIn F n Tryz.prog 15 #[.pointer (some ⟨bs, 0, none⟩)] w fun e w' => ∃ nb, e = .returned (.slice (some ⟨nb, 0, none⟩) 2 2) ∧ w.heap.size ≤ nb ∧
      w'.heap[nb]? = some (.cells #[.int .i64 (wsum ((dn M (M + 1)).map fun i => fa i.1)), .int .i64 (wsum ((dn M (M + 1)).map fun i => fb i.1))] 3) ∧ Below w.heap.size w w' := by
  have hn1 : 1 ≤ n := by omega
  have hmk := run_mk2
  obtain ⟨b0, k0, hl0, -, -⟩ := hl 0 (Nat.zero_le _)
  simp only [Nat.zero_mul, Nat.zero_add] at hl0
  refine callsIn_of_wp_marks Tryz.func15 rfl h15 ?_ hro
  simp only [Tryz.ntmps15, List.size_toArray, List.length_cons, List.length_nil, Nat.reduceAdd, Nat.reduceSub, Array.replicate_succ, Array.replicate_zero, List.push_toArray, List.append_toArray, List.nil_append, List.cons_append]
  gi_wp2_with (gi_at_call 59; refine (outward_in F (n - 1) h59 hro _ _).mono ?_; rintro e w' ⟨rfl, rfl⟩)
  obtain ⟨W0, hW0⟩ : ∃ W0, (((w.alloc (Obj.cells #[Value.int IntKind.i64 0, Value.int IntKind.i64 0] 3)).alloc (Obj.cells #[Value.slice (some { block := w.heap.size, off := 0 }) 2 2] 22)).alloc (Obj.cells #[Value.pointer (some { block := bs, off := 0 })] 35)) = W0 := ⟨_, rfl⟩
  rw [hW0]
  have hsz : W0.heap.size = w.heap.size + 3 := by rw [← hW0]; simp
  have hB0 : Below w.heap.size w W0 := by rw [← hW0]; exact (((Below.refl _ w).alloc (Nat.le_refl _) _).alloc (by simp) _).alloc (by simp; omega) _
  have g0 : W0.heap[w.heap.size]? = some (.cells #[.int .i64 0, .int .i64 0] 3) := by rw [← hW0]; exact (heap3 _ _ _ _).1
  have g1 : W0.heap[w.heap.size + 1]? = some (.cells #[.slice (some ⟨w.heap.size, 0, none⟩) 2 2] 22) := by rw [← hW0]; exact (heap3 _ _ _ _).2.1
  have g2 : W0.heap[w.heap.size + 1 + 1]? = some (.cells #[.pointer (some ⟨bs, 0, none⟩)] 35) := by rw [← hW0]; exact (heap3 _ _ _ _).2.2
  have ltc : ∀ {a : Addr} {v : Value}, w.cell? a = some v → a.block < w.heap.size := fun {a v} h => by
    unfold World.cell? at h
    cases ho : w.heap[a.block]? with
    | none => simp [ho] at h
    | some o => exact (Array.getElem?_eq_some_iff.1 ho).1
  refine wpIn_rangeFunc_ownF hro hn1 (gf := 85) (lb := #[.pointer (some ⟨w.heap.size + 1 + 1, 0, none⟩)]) rfl h85 (enters_of Tryz.func85 (by kernel_rfl) rfl)
    (outward_stops F (n - 1) h85 hro (by omega) (w.heap.size + 1 + 1) bs bl cap M w.heap.size (ltc hs) hM W0 (by omega) (by omega) (cell_of g2 rfl) ((hB0.cell (p := ⟨bs, 0, none⟩) (ltc hs)).trans hs)) (fun h k => kpO_t h k)
    (fun W l o o' hl ho h1 h2 => ⟨belowK_b (w := w) (Nat.le_refl _) W l o o' (by omega) ho h1 h2, World.putObj_heap_other (by omega)⟩) (Below.refl _ _) (fun _ => rfl)
    (fun pre W => (W.heap[w.heap.size]? = some (.cells #[.int .i64 (wsum (pre.map fun i => fa i.1)), .int .i64 (wsum (pre.map fun i => fb i.1))] 3) ∧ W.heap[w.heap.size + 1]? = some (.cells #[.slice (some ⟨w.heap.size, 0, none⟩) 2 2] 22)) ∧ Below w.heap.size w W)
    (fun _ _ _ => False)
    (OwnFrom.and (Own.from (fun s A B row hs hg hr => ⟨blk_kept hs.1 hg hr, blk_kept hs.2 hg hr⟩) _) (ownFrom_below (Nat.le_refl _) (by omega)))
    (fun _ _ _ _ _ hs _ _ => hs)
    ⟨⟨g0, g1⟩, hB0⟩
    (fun x => { tmps := #[.pointer (some ⟨bs, 0, none⟩), undef, .slice none 0 0, .pointer (some ⟨w.heap.size + 1, 0, none⟩), undef, .pointer (some ⟨bl, x.1 * 10, none⟩), undef, undef, .pointer (some ⟨bs, 0, none⟩), .bool false, .pointer (some ⟨bs, 0, none⟩), .pointer (some ⟨bs, 0, none⟩), .pointer (some ⟨bs, 0, none⟩),
      .slice (some ⟨bl, 0, none⟩) (M + 1) cap, .pointer (some ⟨bl, 0, none⟩), .pointer (some ⟨bl, 9, none⟩), .slice (some ⟨b0, 0, none⟩) 2 k0, .int .i64 2, .slice (some ⟨w.heap.size, 0, none⟩) 2 2, .pointer (some ⟨bs, 0, none⟩), .func (.func 85) #[] #[.pointer (some ⟨w.heap.size + 1 + 1, 0, none⟩)],
      .int .i64 (x.1 : Int), .pointer (some ⟨bl, x.1 * 10, none⟩), undef, undef, undef, undef, undef, undef, undef, undef, undef, undef, undef, undef, undef, undef, undef, undef, undef, undef, undef], defers := [] }) ?assign ?body ?done ?stop
  case assign =>
    intro l x W K hK
    gi_wp2
    exact hK
  case body =>
    rintro l pre x W ⟨⟨hrow, hbox⟩, hB⟩ _
    have hx : x.1 ≤ M := by omega
    have blt : ∀ {a : Addr} {v : Value}, w.cell? a = some v → W.cell? a = some v := fun {a v} h => (hB.cell (p := a) (ltc h)).trans h
    obtain ⟨bx, cx, hst, e1, e2⟩ := hl x.1 hx
    have k0 := ltc e1
    have hst := blt hst
    have e1 := blt e1
    have e2 := blt e2
    obtain ⟨sa, hsa⟩ : ∃ sa, wsum (pre.map fun i => fa i.1) = sa := ⟨_, rfl⟩
    obtain ⟨sb, hsb⟩ : ∃ sb, wsum (pre.map fun i => fb i.1) = sb := ⟨_, rfl⟩
    rw [hsa, hsb] at hrow
    have w1 : wsum ((pre ++ [x]).map fun i => fa i.1) = wrap64 (sa + fa x.1) := by rw [List.map_append, List.map_cons, List.map_nil, wsum_snoc, hsa]
    have w2 : wsum ((pre ++ [x]).map fun i => fb i.1) = wrap64 (sb + fb x.1) := by rw [List.map_append, List.map_cons, List.map_nil, wsum_snoc, hsb]
    gi_wp2
    gi_loopw [28] (fun i wr => ∃ k : Nat, k ≤ 2 ∧ i = .int .i64 k ∧ wr.heap[w.heap.size]? = some (.cells #[.int .i64 (if 1 ≤ k then wrap64 (sa + fa x.1) else sa), .int .i64 (if 2 ≤ k then wrap64 (sb + fb x.1) else sb)] 3) ∧
      wr.heap[w.heap.size + 1]? = some (.cells #[.slice (some ⟨w.heap.size, 0, none⟩) 2 2] 22) ∧ KeepsOthers W wr ∧ KpO w.heap.size (w.heap.size + 1 + 1) W wr)
      (fun i _ => 2 - (intOf i).toNat)
    case atStart => exact ⟨0, by omega, rfl, hrow, hbox, KeepsOthers.refl _, Below.refl _ _, rfl⟩
    case round =>
      obtain ⟨k, hk, rfl, q1, q2, q3, q4⟩ := hrel
      have e1r := (q4.1.cell (p := ⟨bx, 0, none⟩) k0).trans e1
      have e2r := (q4.1.cell (p := ⟨bx, 1, none⟩) k0).trans e2
      have c2 := cell_of q2 (i := 0) rfl
      have f1 : ∀ i, wr.frozen? ⟨w.heap.size, i, none⟩ = false := fun i => free_of q1
      match k, hk with
      | 0, _ =>
        have c1 := cell_of q1 (i := 0) rfl
        gi_wp2
        exact ⟨⟨1, by omega, rfl, set_blk q1, (Below.heap_setCell _ _ _ _ (by show w.heap.size + 1 ≠ w.heap.size; omega)).trans q2, q3.trans (KeepsOthers.setCell _ _ _), kpO_t q4 ⟨(Below.refl w.heap.size wr).setCell (p := ⟨w.heap.size, 0, none⟩) (Nat.le_refl _) _, Below.heap_setCell _ _ _ _ (by show w.heap.size + 1 + 1 ≠ w.heap.size; omega)⟩⟩, by simp [intOf]⟩
      | 1, _ =>
        have c1 := cell_of q1 (i := 1) rfl
        gi_wp2
        exact ⟨⟨2, by omega, rfl, set_blk q1, (Below.heap_setCell _ _ _ _ (by show w.heap.size + 1 ≠ w.heap.size; omega)).trans q2, q3.trans (KeepsOthers.setCell _ _ _), kpO_t q4 ⟨(Below.refl w.heap.size wr).setCell (p := ⟨w.heap.size, 1, none⟩) (Nat.le_refl _) _, Below.heap_setCell _ _ _ _ (by show w.heap.size + 1 + 1 ≠ w.heap.size; omega)⟩⟩, by simp [intOf]⟩
      | 2, _ =>
        gi_wp2
        exact ⟨q3, q4, ⟨by rw [w1, w2]; exact q1, q2⟩, hB.trans q4.1⟩
  case done =>
    rintro D ys W hD rfl ⟨⟨hrow, hbox⟩, hB⟩ hK
    have c2 := cell_of hbox (i := 0) rfl
    gi_wp2
    refine ⟨by simp, .inl ⟨_, _, rfl, run_takeDeferred hK, ?_⟩⟩
    refine ⟨_, results_tmp rfl _ _ _, w.heap.size, rfl, Nat.le_refl _, (World.putObj_heap_other (by omega)).trans hrow, hB.trans (belowK_b (w := w) (Nat.le_refl _) W D _ _ (by omega) hK rfl rfl)⟩
  case stop =>
    rintro D c pre W _ _ h _
    exact h.elim
end Go.Proofs.YthcldogebnjohaaGreatDoor
end

/- The evaluator: a contract by hand whose result is one new object. -/
section
set_option linter.unusedSectionVars false
namespace Go.Ev
open Go.RowKit (Below)
variable {P : Program} [Frozen P] {σ : Sg} {A : AW} {w w' : World}
theorem Rel.newAt (hR : Rel P σ A w) {o : AO} {x : Obj} {nb d : Nat} (hb : Below w.heap.size w w') (hge : w.heap.size ≤ nb) (hx : w'.heap[nb]? = some x) (hor : OR P σ d o x) :
    Rel P (ext σ A.next (nb, d)) (A.add o) w' ∧ Step σ A w (ext σ A.next (nb, d)) (A.add o) w' := by
  have hn := hR.lim A.next (Nat.le_refl _)
  have hsub := sub_ext (nb, d) hn
  have hlt : ∀ {k y}, w.heap[k]? = some y → k < w.heap.size := fun {k y} h => (Array.getElem?_eq_some_iff.1 h).1
  have hold : ∀ k, k < w.heap.size → w'.heap[k]? = w.heap[k]? := fun k hk => hb.block k hk
  have hnone : ∀ i d' o', σ i = some (nb, d') → A.heap.get i = some o' → live o' = true → False := fun i d' o' hi hg hl => by
    obtain ⟨y, hy, _⟩ := hR.obj i _ d' o' hi hg hl
    have := hlt hy; omega
  refine hR.both ⟨⟨?_, ?_, ?_, ?_, fun j hj => by have hj : A.next + 1 ≤ j := hj; rw [heap_add, if_neg (by omega)]; exact hR.top j (by omega)⟩, ⟨?_, Nat.le_succ _, hb.os, hb.tape, hb.output, hb.size, fun k hk _ => hold k hk, ?_, ?_, ?_⟩⟩
  · intro j b' d' oj hj hgj hlj
    rw [heap_add] at hgj
    by_cases e : j = A.next
    · subst e; rw [if_pos rfl] at hgj; cases hgj
      rw [ext_self] at hj; cases hj
      exact ⟨x, hx, hor.sub hsub⟩
    · rw [if_neg e] at hgj; rw [ext_other _ e] at hj
      obtain ⟨y, hy, hor'⟩ := hR.obj j b' d' oj hj hgj hlj
      exact ⟨y, by rw [hold _ (hlt hy)]; exact hy, hor'.sub hsub⟩
  · intro j k b' d1 d2 oj ok hj hk hgj hgk hlj hlk hjk
    rw [heap_add] at hgj hgk
    by_cases e : j = A.next <;> by_cases e2 : k = A.next
    · rw [e, e2]
    · subst e; rw [ext_self] at hj; cases hj; rw [ext_other _ e2] at hk; rw [if_neg e2] at hgk; exact (hnone k d2 ok hk hgk hlk).elim
    · subst e2; rw [ext_self] at hk; cases hk; rw [ext_other _ e] at hj; rw [if_neg e] at hgj; exact (hnone j d1 oj hj hgj hlj).elim
    · rw [ext_other _ e] at hj; rw [ext_other _ e2] at hk; rw [if_neg e] at hgj; rw [if_neg e2] at hgk
      exact hR.inj _ _ b' d1 d2 oj ok hj hk hgj hgk hlj hlk hjk
  · intro i hi
    have hi : A.next + 1 ≤ i := hi
    rw [ext_other _ (by omega)]
    exact hR.lim i (by omega)
  · intro g hg
    rw [ext_other _ (fun e => by have := hR.glob g hg; rw [e, hn] at this; cases this)]
    exact hR.glob g hg
  · intro i hi; exact ext_other _ (by omega)
  · rintro k hk ⟨j, d', oj, hj, hgj, hw⟩
    rw [heap_add] at hgj
    by_cases e : j = A.next
    · subst e; rw [ext_self] at hj; cases hj; omega
    · rw [if_neg e] at hgj; rw [ext_other _ e] at hj; exact ⟨j, d', oj, hj, hgj, hw⟩
  · intro i b' d' oi hle hi hgi hli hb'
    by_cases e : i = A.next
    · subst e; rw [ext_self] at hi; cases hi; omega
    · rw [ext_other _ e, hR.lim i hle] at hi; cases hi
  · intro i oi hi hgi hli
    rw [heap_add, if_neg (by omega)] at hgi
    exact ⟨oi, hgi, hli⟩
theorem serves_row {E : Env} (hE : EnvOK P E) {f : FuncId} {fn : Func} {c : Code} (hf : P.funcs[f]? = some fn) (hb : fn.body = some c) {args' cs cs' : List Value} {e : TypeId} {n : Nat} (hR : Rel P σ A w) (hc : VRL σ cs cs')
    (h : Calls P f ⟨args'⟩ w fun en w' => ∃ nb, en = .returned (.slice (some ⟨nb, 0, none⟩) n n) ∧ w.heap.size ≤ nb ∧ w'.heap[nb]? = some (.cells ⟨cs'⟩ e) ∧ Below w.heap.size w w') :
    Serves P σ A w ((callFunc f ⟨args'⟩).run P w) (.slice (some ⟨A.next, 0, none⟩) n n) (A.add (.row cs e .own)) :=
  .inr ⟨f, ⟨args'⟩, entered (hE.name f fn hf) hf hb ⟨args'⟩ w, Calls.mono h fun en w' he => by
    obtain ⟨nb, rfl, hge, hx, hbl⟩ := he
    have k := hR.newAt (o := .row cs e .own) (d := 0) hbl hge hx ⟨.inr rfl, rowR_own hc⟩
    exact ⟨_, .slice (ext_self _ _), k.1, k.2⟩⟩
end Go.Ev
end

/- What all tables have of each seat, for the evaluator without variables. -/
section
set_option maxRecDepth 100000
set_option linter.unusedSectionVars false
namespace Go.Proofs.YthcldogebnjohaaGreatDoor
open Go.Ev
open Go.RowKit (Below wrap64)
noncomputable section
def ptrI (v : Value) : Option Nat := match v with
  | .pointer (some ⟨b, 0, none⟩) => some b
  | _ => none
def slcI (v : Value) : Option (Nat × Nat × Nat) := match v with
  | .slice (some ⟨b, 0, none⟩) l c => some (b, l, c)
  | _ => none
def i64I (v : Value) : Option Int := match v with
  | .int .i64 z => some z
  | _ => none
def celI (H : T AO) (i k : Nat) : Option Value := Option.rec none (fun o => AO.rec (fun c _ _ => lget c k) (fun _ _ => none) none o) (H.get i)
def amtI (H : T AO) (il i : Nat) : Option (Int × Int) := ob (celI H il (Nat.add (Nat.mul i 10) 9)) fun v => ob (slcI v) fun s => bt (Nat.beq s.2.1 2) (ob (celI H s.1 0) fun x => ob (celI H s.1 1) fun y => ob (i64I x) fun p => ob (i64I y) fun q => some (p, q))
def amtsI (H : T AO) (il n : Nat) : Option (List (Int × Int)) := Nat.rec (some []) (fun n ih => ob (amtI H il n) fun p => ob ih fun l => some (p :: l)) n
def heldV (v : Value) (A : AW) : Option (Value × AW) := ob (ptrI v) fun is => ob (celI A.heap is 0) fun h => ob (slcI h) fun s => Nat.rec none (fun M _ => bt (Nat.ble M 1000) (ob (amtsI A.heap s.1 (Nat.succ M)) fun l =>
  fint (wsum (l.map fun p => p.1)) fun x => fint (wsum (l.map fun p => p.2)) fun y => some (.slice (some ⟨A.next, 0, none⟩) 2 2, A.add (.row [.int .i64 x, .int .i64 y] 3 .own)))) s.2.1
def heldA (c : Caller) (args : List Value) (A : AW) : Option (Value × AW) := match args with
  | [x] => Option.rec (c 15 args A) some (heldV x A)
  | _ => c 15 args A
def heldH (c : Caller) : Caller := fun f args A => Bool.rec (c f args A) (heldA c args A) (Nat.beq f 15)
end
theorem ptrI_some {v : Value} {b : Nat} (h : ptrI v = some b) : v = .pointer (some ⟨b, 0, none⟩) := by
  unfold ptrI at h
  split at h
  · cases h; rfl
  · cases h
theorem slcI_some {v : Value} {s : Nat × Nat × Nat} (h : slcI v = some s) : v = .slice (some ⟨s.1, 0, none⟩) s.2.1 s.2.2 := by
  unfold slcI at h
  split at h
  · cases h; rfl
  · cases h
theorem i64I_some {v : Value} {z : Int} (h : i64I v = some z) : v = .int .i64 z := by
  unfold i64I at h
  split at h
  · cases h; rfl
  · cases h
theorem celI_some {H : T AO} {i k : Nat} {v : Value} (h : celI H i k = some v) : ∃ c e m, H.get i = some (.row c e m) ∧ c[k]? = some v := by
  unfold celI at h
  cases hg : H.get i with
  | none => rw [hg] at h; cases h
  | some o =>
    rw [hg] at h
    cases o with
    | row c e m => exact ⟨c, e, m, rfl, by rw [← lget_eq]; exact h⟩
    | map es k => cases h
    | dead => cases h
theorem amtsI_all {H : T AO} {il : Nat} : ∀ {n : Nat} {l : List (Int × Int)}, amtsI H il n = some l → (∀ i, i < n → ∃ p, amtI H il i = some p) ∧ l = (List.range n).map fun j => (amtI H il (n - 1 - j)).getD (0, 0) := by
  intro n
  induction n with
  | zero => intro l h; cases h; exact ⟨fun i hi => absurd hi (Nat.not_lt_zero _), rfl⟩
  | succ n ih =>
    intro l h
    have h : ob (amtI H il n) (fun p => ob (amtsI H il n) fun l => some (p :: l)) = some l := h
    simp only [ob_some] at h
    obtain ⟨p, hp, l', hl', e⟩ := h
    cases e
    obtain ⟨k1, k2⟩ := ih hl'
    refine ⟨fun i hi => ?_, ?_⟩
    · by_cases e : i = n
      · subst e; exact ⟨p, hp⟩
      · exact k1 i (by omega)
    · rw [List.range_succ_eq_map, List.map_cons, List.map_map]
      simp only [Nat.add_sub_cancel, Nat.sub_zero, hp, Option.getD_some]
      rw [k2]
      congr 1
      apply List.map_congr_left
      intro j _
      simp only [Function.comp]
      congr 2
      omega
variable [Frozen Tryz.prog]
theorem heldH_ok : HookOK Tryz.prog heldH := fun c hc f args A v A' h σ w args' hR ha => by
  unfold heldH at h
  cases hb : Nat.beq f 15 with
  | false => rw [hb] at h; exact hc f args A v A' h σ w args' hR ha
  | true =>
    rw [hb] at h
    obtain rfl := beqIff.1 hb
    have hw2 : heldA c args A = some (v, A') := h
    clear h
    unfold heldA at hw2
    split at hw2
    · rename_i x
      cases hv : heldV x A with
      | none => rw [hv] at hw2; exact hc _ _ _ _ _ hw2 σ w args' hR ha
      | some p =>
        rw [hv] at hw2
        have hw2 : some p = some (v, A') := hw2
        cases hw2
        unfold heldV at hv
        simp only [ob_some] at hv
        obtain ⟨is, h1, hd, h2, ⟨il, n, cp⟩, h3, h4⟩ := hv
        obtain rfl := ptrI_some h1
        obtain rfl := slcI_some h3
        cases n with
        | zero => cases h4
        | succ M =>
          have h4 : bt (Nat.ble M 1000) (ob (amtsI A.heap il (Nat.succ M)) fun l => fint (wsum (l.map fun p => p.1)) fun x => fint (wsum (l.map fun p => p.2)) fun y => some (.slice (some ⟨A.next, 0, none⟩) 2 2, A.add (.row [.int .i64 x, .int .i64 y] 3 .own))) = some (v, A') := h4
          simp only [bt_some, ob_some, fint_eq, Option.some.injEq, Prod.mk.injEq] at h4
          obtain ⟨hM, l, hl, rfl, rfl⟩ := h4
          obtain ⟨k1, k2⟩ := amtsI_all hl
          cases ha with
          | cons a1 t1 =>
          cases t1
          obtain ⟨bs, d1, s1, rfl⟩ := a1.ptr_inv
          have hcell : ∀ {i k : Nat} {u : Value} {b d : Nat}, σ i = some (b, d) → celI A.heap i k = some u → ∃ u', w.cell? ⟨b, k, none⟩ = some u' ∧ VR σ u u' := fun {i k u b d} hs hu => by
            obtain ⟨c0, e0, m0, hg, hk⟩ := celI_some hu
            obtain ⟨cs, es, fz, hw0, hr, _⟩ := hR.rowA hs hg
            obtain ⟨u', hu', hv'⟩ := hr.get hk
            exact ⟨u', by simp [World.cell?, hw0, hu'], hv'⟩
          obtain ⟨u0, hu0, vu0⟩ := hcell s1 h2
          obtain ⟨bl, dl, sl, rfl⟩ := vu0.slice_inv
          have hA : (l.map fun p => p.1) = (dn M (M + 1)).map fun i => ((amtI A.heap il i.1).getD (0, 0)).1 := by
            rw [k2]; simp only [dn, List.map_map]
            apply List.map_congr_left
            intro j _
            simp only [Function.comp]
            congr 3
          have hB : (l.map fun p => p.2) = (dn M (M + 1)).map fun i => ((amtI A.heap il i.1).getD (0, 0)).2 := by
            rw [k2]; simp only [dn, List.map_map]
            apply List.map_congr_left
            intro j _
            simp only [Function.comp]
            congr 3
          refine serves_row envOK (fn := Tryz.f15) (by kernel_rfl) rfl hR (vrl_refl_flats rfl) ?_
          rw [hA, hB]
          refine callsIn_wide.1 (held_in Fence.wide 3 trivial trivial trivial rfl (by decide) bs bl (cp + dl) M (fun i => ((amtI A.heap il i).getD (0, 0)).1) (fun i => ((amtI A.heap il i).getD (0, 0)).2) w (bleIff.1 hM) hu0 fun i hi => ?_)
          obtain ⟨⟨p, q⟩, hp⟩ := k1 i (by omega)
          rw [hp]
          unfold amtI at hp
          simp only [ob_some, bt_some] at hp
          obtain ⟨v1, q1, ⟨ib, n2, c2⟩, q2, q3, x, q4, y, q5, p', q6, q', q7, e⟩ := hp
          cases e
          obtain rfl := slcI_some q2
          obtain rfl : n2 = 2 := beqIff.1 q3
          obtain rfl := i64I_some q6
          obtain rfl := i64I_some q7
          obtain ⟨u1, hu1, vu1⟩ := hcell sl q1
          obtain ⟨b, d, sb, rfl⟩ := vu1.slice_inv
          obtain ⟨u2, hu2, vu2⟩ := hcell sb q4
          obtain ⟨u3, hu3, vu3⟩ := hcell sb q5
          obtain rfl := vu2.of_flat rfl
          obtain rfl := vu3.of_flat rfl
          exact ⟨b, c2 + d, hu1, hu2, hu3⟩
    · exact hc _ _ _ _ _ hw2 σ w args' hR ha
end Go.Proofs.YthcldogebnjohaaGreatDoor
end
