/- Contracts: signing into the book, a new entry. -/
import Derived.Test.YtpnegfocmaecbaaNote2
import Derived.Deep.DeepCutAuto
import Derived.StillTailTactics
namespace Go.Proofs.Ytpnegfocmaecbaa
open Go.RowKit
/-- What signing leaves behind the list's store, ahead of the map's. -/
def SMid (w : World) (gb mb n B : Nat) (D : DataW Unit) (xs : List Value) (es : Array Value) (S : Nat → Prop) (wx : World) : Prop :=
  ∃ A7 c7, wx.heap[gb]? = some (.cells #[.slice A7 (n + 1) c7, .map (some mb)] 76 (0, 0)) ∧ wx.heap[w.heap.size]? = some (.cells es 116 (0, 0)) ∧ wx.ownsMap Try.prog 116 (plainElem Try.prog 3) mb n D ∧ wx.ownsRow B 116 16 (.slice A7 (n + 1) c7) (n + 1) (xs ++ es.toList) ∧ Turn w wx S
/-- What signing leaves. -/
def SEnd (w : World) (gb mb n B : Nat) (D : DataW Unit) (l : Lit) (xs : List Value) (es : Array Value) (S : Nat → Prop) (e : Ending) (w' : World) : Prop :=
  ∃ g A7 c7, e = .returned (.tuple #[.slice (some ⟨g, 0, none⟩) 2 2, .int .i64 0]) ∧ w'.heap[g]? = some (.cells #[.int .u8 ((n : Int) % 256), .int .u8 ((n : Int) / 256)] 5 (0, 0)) ∧ w.heap.size ≤ g ∧
    w'.heap[gb]? = some (.cells #[.slice A7 (n + 1) c7, .map (some mb)] 76 (0, 0)) ∧ w'.ownsMap Try.prog 116 (plainElem Try.prog 3) mb (n + 1) (D.put l (.lit (.int .i64 n))) ∧ w'.ownsRow B 116 16 (.slice A7 (n + 1) c7) (n + 1) (xs ++ es.toList) ∧ Turn w w' S
theorem midAppend {W w7 w : World} {gb mb n c B : Nat} {A A7 : Option Addr} {c7 : Nat} {D : DataW Unit} {xs : List Value} {es : Array Value} {o : Obj} (hbk : W.heap[gb]? = some (.cells #[.slice A n c, .map (some mb)] 76 (0, 0))) (hen : W.heap[w.heap.size]? = some (.cells es 116 (0, 0))) (hm : W.ownsMap Try.prog 116 (plainElem Try.prog 3) mb n D) (hr : W.ownsRow B 116 16 (.slice A n c) n xs)
    (hlt : ∀ g, (Value.slice A n c).ownBlock = some g → g < w.heap.size) (ht : Turn w W (fun k => k = gb ∨ k = mb ∨ some k = (Value.slice A n c).ownBlock)) (hgb : gb < w.heap.size) (hg : (W.alloc o).grownBy w7 (Value.slice A n c).ownBlock) (hr7 : w7.ownsRow B 116 16 (.slice A7 (n + 1) c7) (n + 1) (xs ++ es.toList)) :
    w7.heap[gb]? = some (.cells #[.slice A n c, .map (some mb)] 76 (0, 0)) ∧ SMid w gb mb n B D xs es (fun k => k = gb ∨ k = mb ∨ some k = (Value.slice A n c).ownBlock) (w7.setCell ⟨gb, 0, none⟩ (.slice A7 (n + 1) c7)) := by
  have h1 : (W.alloc o).heap[gb]? = _ := (allocOld W o gb (blk_lt hbk)).trans hbk
  have h2 : (W.alloc o).heap[w.heap.size]? = _ := (allocOld W o _ (blk_lt hen)).trans hen
  have g7 : w7.heap[gb]? = _ := (hg.block gb (blk_lt h1) (own_apart (hr.alloc _) h1 (by decide))).trans h1
  have e7 : w7.heap[w.heap.size]? = some (.cells es 116 (0, 0)) := (hg.block _ (blk_lt h2) (fun e => by have := hlt _ e.symm; omega)).trans h2
  have m7 := (hm.alloc o).kept hg (map_own hm hr)
  have t7 := (ht.alloc o).grown hg (fun k hk _ => .inr (.inr hk))
  refine ⟨g7, A7, c7, blk_set g7 0 _, (Below.heap_setCell _ _ _ _ (by show w.heap.size ≠ gb; omega)).trans e7, m7.setCell (fun e => map_ne hm hbk e) _, own_setOther hr7 g7 (by decide) _ _, t7.setCell (Or.inl rfl) _⟩

theorem signEnd {w wc w9 : World} {gb mb n B : Nat} {A7 : Option Addr} {c7 : Nat} {D : DataW Unit} {l : Lit} {xs : List Value} {es : Array Value} {A : Option Addr} {c : Nat} (hg : wc.heap[gb]? = some (.cells #[.slice A7 (n + 1) c7, .map (some mb)] 76 (0, 0)))
    (hm : wc.ownsMap Try.prog 116 (plainElem Try.prog 3) mb n D) (hr : wc.ownsRow B 116 16 (.slice A7 (n + 1) c7) (n + 1) (xs ++ es.toList)) (ht : Turn w wc (fun k => k = gb ∨ k = mb ∨ some k = (Value.slice A n c).ownBlock))
    (hm9 : w9.ownsMap Try.prog 116 (plainElem Try.prog 3) mb (n + 1) (D.put l (.lit (.int .i64 n)))) (hg9 : wc.drew.grownBy w9 (some mb)) :
    SEnd w gb mb n B D l xs es (fun k => k = gb ∨ k = mb ∨ some k = (Value.slice A n c).ownBlock) (.returned (.tuple #[.slice (some ⟨w9.heap.size, 0, none⟩) 2 2, .int .i64 0])) (w9.alloc (.cells #[.int .u8 ((n : Int) % 256), .int .u8 ((n : Int) / 256)] 5)) := by
  have h1 : w9.heap[gb]? = some (.cells #[.slice A7 (n + 1) c7, .map (some mb)] 76 (0, 0)) := (hg9.block gb (blk_lt hg) (fun e => map_ne hm hg (by injection e with e; exact e.symm))).trans hg
  have t9 : Turn w w9 _ := ht.drew.grown hg9 (fun k hk _ => .inr (.inl (by injection hk)))
  have hr9 : w9.ownsRow B 116 16 (.slice A7 (n + 1) c7) (n + 1) (xs ++ es.toList) := hr.drew.kept hg9 (.inr (fun e => map_own hm hr e.symm))
  exact ⟨w9.heap.size, A7, c7, rfl, heap_alloc_new w9 _, t9.size, (allocOld w9 _ gb (blk_lt h1)).trans h1, hm9.alloc _, hr9.alloc _, t9.alloc _⟩

set_option maxRecDepth 100000 in
set_option maxHeartbeats 1000000 in
theorem sign_new (gb mb n c B : Nat) (A : Option Addr) (a0 a1 a2 a3 a4 a5 a6 a7 b0 b1 b2 b3 b4 b5 b6 b7 i : Int) (w : World) (hn : n < 65536)
    (hblk : w.heap[gb]? = some (.cells #[.slice A n c, .map (some mb)] 76 (0, 0))) (hB : B ≤ w.heap.size) (D : DataW Unit) (l : Lit) (hkl : keyOf Try.prog 116 (.agg #[.int .u8 a0, .int .u8 a1, .int .u8 a2, .int .u8 a3, .int .u8 a4, .int .u8 a5, .int .u8 a6, .int .u8 a7, .int .u8 b0, .int .u8 b1, .int .u8 b2, .int .u8 b3, .int .u8 b4, .int .u8 b5, .int .u8 b6, .int .u8 b7]) = some l) (hmap : w.ownsMap Try.prog 116 (plainElem Try.prog 3) mb n D) (xs : List Value) (hrow : w.ownsRow B 116 16 (.slice A n c) n xs)
    (hrun : ∀ m, (Instr.lookup 73 (.map (some mb)) (.agg #[.int .u8 a0, .int .u8 a1, .int .u8 a2, .int .u8 a3, .int .u8 a4, .int .u8 a5, .int .u8 a6, .int .u8 a7, .int .u8 b0, .int .u8 b1, .int .u8 b2, .int .u8 b3, .int .u8 b4, .int .u8 b5, .int .u8 b6, .int .u8 b7]) true).run Try.prog ((w.alloc (.cells #[.int .u8 a0, .int .u8 a1, .int .u8 a2, .int .u8 a3, .int .u8 a4, .int .u8 a5, .int .u8 a6, .int .u8 a7, .int .u8 b0, .int .u8 b1, .int .u8 b2, .int .u8 b3, .int .u8 b4, .int .u8 b5, .int .u8 b6, .int .u8 b7] 116)).drewN m) = .ok (.tuple #[.int .i64 i, .bool false]) ((w.alloc (.cells #[.int .u8 a0, .int .u8 a1, .int .u8 a2, .int .u8 a3, .int .u8 a4, .int .u8 a5, .int .u8 a6, .int .u8 a7, .int .u8 b0, .int .u8 b1, .int .u8 b2, .int .u8 b3, .int .u8 b4, .int .u8 b5, .int .u8 b6, .int .u8 b7] 116)).drewN m)) :
    Calls Try.prog 72 #[.pointer (some ⟨gb, 0, none⟩), .agg #[.int .u8 a0, .int .u8 a1, .int .u8 a2, .int .u8 a3, .int .u8 a4, .int .u8 a5, .int .u8 a6, .int .u8 a7, .int .u8 b0, .int .u8 b1, .int .u8 b2, .int .u8 b3, .int .u8 b4, .int .u8 b5, .int .u8 b6, .int .u8 b7]] w (SEnd w gb mb n B D l xs #[.int .u8 a0, .int .u8 a1, .int .u8 a2, .int .u8 a3, .int .u8 a4, .int .u8 a5, .int .u8 a6, .int .u8 a7, .int .u8 b0, .int .u8 b1, .int .u8 b2, .int .u8 b3, .int .u8 b4, .int .u8 b5, .int .u8 b6, .int .u8 b7] (fun k => k = gb ∨ k = mb ∨ some k = (Value.slice A n c).ownBlock)) := by
  have c0 : w.cell? ⟨gb, 0, none⟩ = some (.slice A n c) := blk_cell hblk 0
  have c1 : w.cell? ⟨gb, 1, none⟩ = some (.map (some mb)) := blk_cell hblk 1
  have hgb := blk_lt hblk
  go_enter Try.func72, Try.ntmps72
  go_wp2_with fail
  go_quiet (fail)
  have hni : ¬ (65536 : Int) ≤ (n : Int) := by omega
  have hwb : ((w.alloc (.cells #[.int .u8 a0, .int .u8 a1, .int .u8 a2, .int .u8 a3, .int .u8 a4, .int .u8 a5, .int .u8 a6, .int .u8 a7, .int .u8 b0, .int .u8 b1, .int .u8 b2, .int .u8 b3, .int .u8 b4, .int .u8 b5, .int .u8 b6, .int .u8 b7] 116)).drewN nq).heap[w.heap.size]? = some (.cells #[.int .u8 a0, .int .u8 a1, .int .u8 a2, .int .u8 a3, .int .u8 a4, .int .u8 a5, .int .u8 a6, .int .u8 a7, .int .u8 b0, .int .u8 b1, .int .u8 b2, .int .u8 b3, .int .u8 b4, .int .u8 b5, .int .u8 b6, .int .u8 b7] 116 (0, 0)) := heap_alloc_new w _
  have hwg : ((w.alloc (.cells #[.int .u8 a0, .int .u8 a1, .int .u8 a2, .int .u8 a3, .int .u8 a4, .int .u8 a5, .int .u8 a6, .int .u8 a7, .int .u8 b0, .int .u8 b1, .int .u8 b2, .int .u8 b3, .int .u8 b4, .int .u8 b5, .int .u8 b6, .int .u8 b7] 116)).drewN nq).heap[gb]? = some (.cells #[.slice A n c, .map (some mb)] 76 (0, 0)) := (allocOld w _ gb hgb).trans hblk
  have hwm : ((w.alloc (.cells #[.int .u8 a0, .int .u8 a1, .int .u8 a2, .int .u8 a3, .int .u8 a4, .int .u8 a5, .int .u8 a6, .int .u8 a7, .int .u8 b0, .int .u8 b1, .int .u8 b2, .int .u8 b3, .int .u8 b4, .int .u8 b5, .int .u8 b6, .int .u8 b7] 116)).drewN nq).ownsMap Try.prog 116 (plainElem Try.prog 3) mb n D := hmap.alloc _
  have hwr : ((w.alloc (.cells #[.int .u8 a0, .int .u8 a1, .int .u8 a2, .int .u8 a3, .int .u8 a4, .int .u8 a5, .int .u8 a6, .int .u8 a7, .int .u8 b0, .int .u8 b1, .int .u8 b2, .int .u8 b3, .int .u8 b4, .int .u8 b5, .int .u8 b6, .int .u8 b7] 116)).drewN nq).ownsRow B 116 16 (.slice A n c) n xs := hrow.alloc _
  have htw : Turn w ((w.alloc (.cells #[.int .u8 a0, .int .u8 a1, .int .u8 a2, .int .u8 a3, .int .u8 a4, .int .u8 a5, .int .u8 a6, .int .u8 a7, .int .u8 b0, .int .u8 b1, .int .u8 b2, .int .u8 b3, .int .u8 b4, .int .u8 b5, .int .u8 b6, .int .u8 b7] 116)).drewN nq) (fun k => k = gb ∨ k = mb ∨ some k = (Value.slice A n c).ownBlock) := (Turn.refl.alloc _).drewN nq
  have hws : ((w.alloc (.cells #[.int .u8 a0, .int .u8 a1, .int .u8 a2, .int .u8 a3, .int .u8 a4, .int .u8 a5, .int .u8 a6, .int .u8 a7, .int .u8 b0, .int .u8 b1, .int .u8 b2, .int .u8 b3, .int .u8 b4, .int .u8 b5, .int .u8 b6, .int .u8 b7] 116)).drewN nq).heap.size = w.heap.size + 1 := by simp
  have HWB := Lib.hid hwb
  have HWG := Lib.hid hwg
  have HWM := Lib.hid hwm
  have HWR := Lib.hid hwr
  have HTW := Lib.hid htw
  have HWS := Lib.hid hws
  have HRW := Lib.hid hrow
  have HBE := Lib.hid hB
  have HN := Lib.hid hn
  have HGB := Lib.hid hgb
  have HKL := Lib.hid hkl
  have HWN : Hid ((Lit.int .i64 (n : Int)).wf = true) := by show _ = _; simp [Lit.wf, IntKind.min, IntKind.max, IntKind.bits, IntKind.signed]; omega
  clear hwb hwg hwm hwr htw hws hrow hblk hB hmap hrun hkl c0 c1
  generalize ((w.alloc (.cells #[.int .u8 a0, .int .u8 a1, .int .u8 a2, .int .u8 a3, .int .u8 a4, .int .u8 a5, .int .u8 a6, .int .u8 a7, .int .u8 b0, .int .u8 b1, .int .u8 b2, .int .u8 b3, .int .u8 b4, .int .u8 b5, .int .u8 b6, .int .u8 b7] 116)).drewN nq) = W1 at HWB HWG HWM HWR HTW HWS ⊢
  have c0 : W1.cell? ⟨gb, 0, none⟩ = some (.slice A n c) := blk_cell HWG.out 0
  have c1 : W1.cell? ⟨gb, 1, none⟩ = some (.map (some mb)) := blk_cell HWG.out 1
  obtain ⟨e0, e1, e2, e3, e4, e5, e6, e7, e8, e9, e10, e11, e12, e13, e14, e15⟩ := cells16 HWB.out
  obtain ⟨i0, hi0, hz0, hs0, hb0⟩ := info_parts entInfo
  have hg1 : gb < W1.heap.size := by have := HWS.out; have := HGB.out; omega
  have hw1 : w.heap.size < W1.heap.size := by have := HWS.out; omega
  go_upto_region 6 with fail
  go_cut [] (fun wx => SMid w gb mb n B D xs #[.int .u8 a0, .int .u8 a1, .int .u8 a2, .int .u8 a3, .int .u8 a4, .int .u8 a5, .int .u8 a6, .int .u8 a7, .int .u8 b0, .int .u8 b1, .int .u8 b2, .int .u8 b3, .int .u8 b4, .int .u8 b5, .int .u8 b6, .int .u8 b7] (fun k => k = gb ∨ k = mb ∨ some k = (Value.slice A n c).ownBlock) wx)
  case first =>
    go_region_law (refine step_append_own rfl (.tmp 30) (.tmp 32) 74 rfl B 116 i0 _ 16 16 Try.underlying74 hi0 hz0 hs0 hb0 (by decide) (by decide) (.slice A n c) n xs (by simp [Act.eval, Act.put]) (HWR.out.drew.alloc _) ⟨w.heap.size + 1, 0, none⟩ 1 1 (#[.int .u8 a0, .int .u8 a1, .int .u8 a2, .int .u8 a3, .int .u8 a4, .int .u8 a5, .int .u8 a6, .int .u8 a7, .int .u8 b0, .int .u8 b1, .int .u8 b2, .int .u8 b3, .int .u8 b4, .int .u8 b5, .int .u8 b6, .int .u8 b7]).toList (by simp [Act.eval, Act.put, HWS.out]) rfl (newCells (by simp [HWS.out])) (by simp [Value.oneCell']) (by have := HN.out; unfold maxLen; omega) (by have := HN.out; omega) (by have := HBE.out; simp [HWS.out]; omega) ?_; intro v7 w7 ho7 hg7; obtain ⟨A7, c7, rfl⟩ := own_sliceN ho7; have HM7 := Lib.hid (midAppend (W := W1.drew) HWG.out HWB.out HWM.out.drew HWR.out.drew (fun g hg => ((HRW.out.lt g hg).2)) HTW.out.drew HGB.out hg7 ho7); have c07 : w7.cell? ⟨gb, 0, none⟩ = some (.slice A n c) := blk_cell HM7.out.1 0; have f07 := blk_frozen HM7.out.1 0; clear ho7 hg7)
    all_goals (go_wp2_with fail; go_meet; exact HM7.out.2)
  case rest =>
    obtain ⟨A7, c7, hg8, hx8, hm8, hr8, ht8⟩ := hcut
    have HG8 := Lib.hid hg8
    have HX8 := Lib.hid hx8
    have HM8 := Lib.hid hm8
    have HR8 := Lib.hid hr8
    have HT8 := Lib.hid ht8
    clear c0 c1 e0 e1 e2 e3 e4 e5 e6 e7 e8 e9 e10 e11 e12 e13 e14 e15 hg8 hx8 hm8 hr8 ht8 hg1 hw1
    have c1 : World.cell? _ ⟨gb, 1, none⟩ = some (Value.map (some mb)) := blk_cell HG8.out 1
    obtain ⟨e0, e1, e2, e3, e4, e5, e6, e7, e8, e9, e10, e11, e12, e13, e14, e15⟩ := cells16 HX8.out
    go_wp2_with fail
    go_still_tail 6, (by kernel_rfl)
    go_wp2_with (at_mapUpdate; refine wpList_mapUpdate_own _ rfl _ _ _ 73 rfl 116 3 entK Try.underlying73 _ mb n D rfl HM8.out (by have := HN.out; unfold maxLen; omega) _ _ l rfl rfl HKL.out (.lit (.int .i64 n)) [] (plainElem_int Try.underlying3 HWN.out) ?_; intro w9 hm9 hg9)
    go_ret2
    exact signEnd HG8.out HM8.out HR8.out HT8.out hm9 hg9
end Go.Proofs.Ytpnegfocmaecbaa
