/- Contracts of package force: Open at any position. -/
import Derived.Test.YthnjebcablpneaaGreatDoorForce2
import Derived.Test.YthnjebcablpneaaGreatDoorPos2
set_option maxRecDepth 100000
namespace Go.Proofs.YthnjebcablpneaaGreatDoor
open Go.RowKit Go.Ev
theorem PosOwn.mono {base base' : Nat} {w : World} {A B C : Option Addr} {n c m d k e : Nat} {x : PosD} (h : PosOwn base w A B C n c m d k e x) (hb : base' ≤ base) : PosOwn base' w A B C n c m d k e x :=
  ⟨own_mono h.vars hb, own_mono h.gone hb, own_monoN h.tips hb, h.nA, h.nB, h.nC⟩
theorem PosOwn.setCell {base g : Nat} {w : World} {A B C : Option Addr} {n c m d k e : Nat} {x : PosD} (h : PosOwn base w A B C n c m d k e x) (hg : g < base) (j : Nat) (v : Value) : PosOwn base (w.setCell ⟨g, j, none⟩ v) A B C n c m d k e x :=
  ⟨ownsRow_setCell_below h.vars (a := ⟨g, j, none⟩) hg v, ownsRow_setCell_below h.gone (a := ⟨g, j, none⟩) hg v, ownsRow_setCell_below h.tips (a := ⟨g, j, none⟩) hg v, h.nA, h.nB, h.nC⟩
theorem PosOwn.set11 {base g : Nat} {w : World} {A B C : Option Addr} {n c m d k e : Nat} {x : PosD} (h : PosOwn base w A B C n c m d k e x) (hg : g < base) (v0 v1 v2 v3 v4 v5 v6 v7 v8 v9 v10 : Value) :
    PosOwn base (((((((((((w.setCell ⟨g, 0, none⟩ v0).setCell ⟨g, 1, none⟩ v1).setCell ⟨g, 2, none⟩ v2).setCell ⟨g, 3, none⟩ v3).setCell ⟨g, 4, none⟩ v4).setCell ⟨g, 5, none⟩ v5).setCell ⟨g, 6, none⟩ v6).setCell ⟨g, 7, none⟩ v7).setCell ⟨g, 8, none⟩ v8).setCell ⟨g, 9, none⟩ v9).setCell ⟨g, 10, none⟩ v10) A B C n c m d k e x :=
  ((((((((((h.setCell hg 0 v0).setCell hg 1 v1).setCell hg 2 v2).setCell hg 3 v3).setCell hg 4 v4).setCell hg 5 v5).setCell hg 6 v6).setCell hg 7 v7).setCell hg 8 v8).setCell hg 9 v9).setCell hg 10 v10
theorem openB (A B C : Option Addr) (a c b d k e : Nat) (r0 r1 r2 r3 r4 : Int) (n h v : Int) (w : World) (hc : withinC n h v = 2) : Calls Tryz.prog 10 #[.int .i64 n, .agg #[.slice A a c, .slice B b d, .slice C k e, .int .i64 r0, .int .i64 r1, .int .i64 r2, .int .i64 r3, .int .u64 r4], .int .i64 h, .int .i64 v] w fun en w' => en = .returned (.tuple #[.agg #[.int .i64 0, .int .i64 0, .slice none 0 0, .slice none 0 0, .slice none 0 0, .int .i64 0, .int .i64 0, .int .i64 0, .int .i64 0, .int .u64 0, .int .i64 0], .int .i64 2]) ∧ Below w.heap.size w w' := by
  have HC := Lib.hid hc
  clear hc
  go_enter Tryz.func10, Tryz.ntmps10
  go_wp2_with fail
  refine (within n h v _).mono ?_
  rintro en w' ⟨rfl, hb⟩
  rw [HC.out]
  obtain ⟨rr1, _, HB⟩ := two_stay hb
  have cc0 := blk_cell rr1 0
  have f0 := blk_frozen rr1 0
  have cc1 := blk_cell rr1 1
  have f1 := blk_frozen rr1 1
  have cc2 := blk_cell rr1 2
  have f2 := blk_frozen rr1 2
  have cc3 := blk_cell rr1 3
  have f3 := blk_frozen rr1 3
  have cc4 := blk_cell rr1 4
  have f4 := blk_frozen rr1 4
  have cc5 := blk_cell rr1 5
  have f5 := blk_frozen rr1 5
  have cc6 := blk_cell rr1 6
  have f6 := blk_frozen rr1 6
  have cc7 := blk_cell rr1 7
  have f7 := blk_frozen rr1 7
  have cc8 := blk_cell rr1 8
  have f8 := blk_frozen rr1 8
  have cc9 := blk_cell rr1 9
  have f9 := blk_frozen rr1 9
  have cc10 := blk_cell rr1 10
  have f10 := blk_frozen rr1 10
  clear hb rr1
  have hg : w.heap.size ≤ w.heap.size + 1 := Nat.le_succ _
  go_wp2_with fail
  exact bodyPost_ret (v := .tuple #[.agg #[.int .i64 0, .int .i64 0, .slice none 0 0, .slice none 0 0, .slice none 0 0, .int .i64 0, .int .i64 0, .int .i64 0, .int .i64 0, .int .u64 0, .int .i64 0], .int .i64 2]) (by simp [results, Tryz.results10, go_sem, cc0, f0, cc1, f1, cc2, f2, cc3, f3, cc4, f4, cc5, f5, cc6, f6, cc7, f7, cc8, f8, cc9, f9, cc10, f10]) rfl ⟨rfl, (((((((((((HB.out).setCell hg _).setCell hg _).setCell hg _).setCell hg _).setCell hg _).setCell hg _).setCell hg _).setCell hg _).setCell hg _).setCell hg _).setCell hg _⟩
theorem openG (A B C : Option Addr) (a c b d k e : Nat) (x : PosD) (n h v : Int) (w : World) (hp : PosAt w A B C a b k x) (hA : A = none → c = 0) (hB : B = none → d = 0) (hC : C = none → e = 0) (hn : a ≤ 17592186044416) (hm : b ≤ 17592186044416) (hk : k ≤ 17592186044416) (hc : withinC n h v = 0) : Calls Tryz.prog 10 #[.int .i64 n, .agg #[.slice A a c, .slice B b d, .slice C k e, .int .i64 x.roll.cell, .int .i64 x.roll.sides, .int .i64 x.roll.mover, .int .i64 x.roll.next, .int .u64 x.roll.sum], .int .i64 h, .int .i64 v] w fun en w' => ∃ A' B' C' c' d' e', en = .returned (.tuple #[.agg #[.int .i64 n, .int .i64 n, .slice A' a c', .slice B' b d', .slice C' k e', .int .i64 x.roll.cell, .int .i64 x.roll.sides, .int .i64 x.roll.mover, .int .i64 x.roll.next, .int .u64 x.roll.sum, .int .i64 (h + v)], .int .i64 0]) ∧ PosOwn w.heap.size w' A' B' C' a c' b d' k e' x ∧ Below w.heap.size w w' := by
  have hw : IntKind.i64.wrap (h + v) = h + v := by
    have := within_ok hc
    simp [IntKind.wrap, IntKind.bits, IntKind.signed]; omega
  have HC := Lib.hid hc
  have HP := Lib.hid hp
  clear hc hp
  go_enter Tryz.func10, Tryz.ntmps10
  go_wp2_with fail
  refine (within n h v _).mono ?_
  rintro en w' ⟨rfl, hb⟩
  rw [HC.out]
  obtain ⟨rr1p, rr2, HB⟩ := two_stay hb
  have dd0 := blk_cell rr2 0
  have dd1 := blk_cell rr2 1
  have dd2 := blk_cell rr2 2
  have dd3 := blk_cell rr2 3
  have dd4 := blk_cell rr2 4
  have dd5 := blk_cell rr2 5
  have dd6 := blk_cell rr2 6
  have dd7 := blk_cell rr2 7
  have R1 := Lib.hid rr1p
  have R2 := Lib.hid rr2
  clear hb rr1p rr2
  go_wp2_with fail
  refine (clone7 A B C a c b d k e x _ (HP.out.below HB.out) hA hB hC hn hm hk).mono ?_
  rintro en w2 ⟨A', B', C', c', d', e', rfl, how, hb2⟩
  have HOW := Lib.hid how
  clear how
  have rr1 := blk_below R1.out hb2 (blk_lt R1.out)
  have HB2 : Hid (Below w.heap.size w w2) := HB.out.trans (hb2.mono HB.out.size)
  have cc0 := blk_cell rr1 0
  have f0 := blk_frozen rr1 0
  have cc1 := blk_cell rr1 1
  have f1 := blk_frozen rr1 1
  have cc2 := blk_cell rr1 2
  have f2 := blk_frozen rr1 2
  have cc3 := blk_cell rr1 3
  have f3 := blk_frozen rr1 3
  have cc4 := blk_cell rr1 4
  have f4 := blk_frozen rr1 4
  have cc5 := blk_cell rr1 5
  have f5 := blk_frozen rr1 5
  have cc6 := blk_cell rr1 6
  have f6 := blk_frozen rr1 6
  have cc7 := blk_cell rr1 7
  have f7 := blk_frozen rr1 7
  have cc8 := blk_cell rr1 8
  have f8 := blk_frozen rr1 8
  have cc9 := blk_cell rr1 9
  have f9 := blk_frozen rr1 9
  have cc10 := blk_cell rr1 10
  have f10 := blk_frozen rr1 10
  clear dd0 dd1 dd2 dd3 dd4 dd5 dd6 dd7 rr1 hb2
  have hg : w.heap.size ≤ w.heap.size + 1 := Nat.le_succ _
  have hlt := blk_lt R1.out
  have HO := PosOwn.set11 (HOW.out.mono (Nat.le_refl _)) hlt
  go_wp2_with fail
  exact bodyPost_ret (v := .tuple #[.agg #[.int .i64 n, .int .i64 n, .slice A' a c', .slice B' b d', .slice C' k e', .int .i64 x.roll.cell, .int .i64 x.roll.sides, .int .i64 x.roll.mover, .int .i64 x.roll.next, .int .u64 x.roll.sum, .int .i64 (h + v)], .int .i64 0]) (by simp [results, Tryz.results10, go_sem, cc0, f0, cc1, f1, cc2, f2, cc3, f3, cc4, f4, cc5, f5, cc6, f6, cc7, f7, cc8, f8, cc9, f9, cc10, f10]) rfl ⟨A', B', C', c', d', e', rfl, (HO _ _ _ _ _ _ _ _ _ _ _).mono HB.out.size, (((((((((((HB2.out).setCell hg _).setCell hg _).setCell hg _).setCell hg _).setCell hg _).setCell hg _).setCell hg _).setCell hg _).setCell hg _).setCell hg _).setCell hg _⟩
end Go.Proofs.YthnjebcablpneaaGreatDoor
