/- The law of the newest claim: the walk. (Under way: does not build to its end yet.) -/
import Derived.Test.YthnjebcablpneaaGreatDoorNewA
import Derived.BigFrame
import Derived.Test.YthnjebcablpneaaGreatDoorOf
import Derived.Test.YthnjebcablpneaaGreatDoorPosL
import Derived.Test.YthnjebcablpneaaGreatDoorCut
import Derived.Test.YthnjebcablpneaaGreatDoorKnownA
import Derived.Test.YthnjebcablpneaaGreatDoorAway
set_option maxRecDepth 100000
namespace Go.Proofs.YthnjebcablpneaaGreatDoor
open Go.RowKit Go.Ev
/-- The quarrel and the position that it stands at, each in its block, both the same position. -/
structure NewAt (Q T : Nat) (most : Int) (x : PosD) (A B C A' B' C' : Option Addr) (n c m d k e c' d' e' : Nat) (u : Int) (W : World) : Prop where
  q : W.heap[Q]? = some (.cells #[.int .i64 most, .int .i64 most, .slice A n c, .slice B m d, .slice C k e, .int .i64 x.roll.cell, .int .i64 x.roll.sides, .int .i64 x.roll.mover, .int .i64 x.roll.next, .int .u64 x.roll.sum, .int .i64 u] 38 (0, 0))
  t : W.heap[T]? = some (.cells #[.slice A' n c', .slice B' m d', .slice C' k e', .int .i64 x.roll.cell, .int .i64 x.roll.sides, .int .i64 x.roll.mover, .int .i64 x.roll.next, .int .u64 x.roll.sum] 29 (0, 0))
  p : PosAt W A B C n m k x
  p' : PosAt W A' B' C' n m k x
  a : 0 < n → Away Q T A
  b : 0 < m → Away Q T B
  c : 0 < k → Away Q T C
  a' : 0 < n → Away Q T A'
  b' : 0 < m → Away Q T B'
  c' : 0 < k → Away Q T C'
  low : k ≤ 17592186044416
theorem NewAt.below {Q T : Nat} {most : Int} {x : PosD} {A B C A' B' C' : Option Addr} {n c m d k e c' d' e' : Nat} {u : Int} {W W' : World} (h : NewAt Q T most x A B C A' B' C' n c m d k e c' d' e' u W) (hb : Below W.heap.size W W') : NewAt Q T most x A B C A' B' C' n c m d k e c' d' e' u W' :=
  ⟨blk_below h.q hb (blk_lt h.q), blk_below h.t hb (blk_lt h.t), h.p.below hb, h.p'.below hb, h.a, h.b, h.c, h.a', h.b', h.c', h.low⟩
theorem SameBut.rows {Q T : Nat} (w : World) (a b : Array Value) : SameBut Q T w ((w.drew.setRow T a).setRow Q b) :=
  ⟨by simp, fun k _ h1 h2 => (setRow_other _ _ _ _ h1).trans (setRow_other _ _ _ _ h2)⟩
theorem NewAt.set {Q T : Nat} {most : Int} {x : PosD} {A B C A' B' C' : Option Addr} {n c m d k e c' d' e' : Nat} {u : Int} {W : World} (h : NewAt Q T most x A B C A' B' C' n c m d k e c' d' e' u W) (hQT : Q ≠ T)
    {y : PosD} {gA gB gC pA pB pC : Option Addr} {n1 m1 k1 gc gd ge pc pd pe : Nat} (v v' : Int) (hp : PosAt W gA gB gC n1 m1 k1 y) (hp' : PosAt W pA pB pC n1 m1 k1 y) (a1 : 0 < n1 → Away Q T gA) (b1 : 0 < m1 → Away Q T gB) (c1 : 0 < k1 → Away Q T gC) (a2 : 0 < n1 → Away Q T pA) (b2 : 0 < m1 → Away Q T pB) (c2 : 0 < k1 → Away Q T pC) (hl : k1 ≤ 17592186044416) :
    NewAt Q T v y gA gB gC pA pB pC n1 gc m1 gd k1 ge pc pd pe v' ((W.drew.setRow T #[.slice pA n1 pc, .slice pB m1 pd, .slice pC k1 pe, .int .i64 y.roll.cell, .int .i64 y.roll.sides, .int .i64 y.roll.mover, .int .i64 y.roll.next, .int .u64 y.roll.sum]).setRow Q #[.int .i64 v, .int .i64 v, .slice gA n1 gc, .slice gB m1 gd, .slice gC k1 ge, .int .i64 y.roll.cell, .int .i64 y.roll.sides, .int .i64 y.roll.mover, .int .i64 y.roll.next, .int .u64 y.roll.sum, .int .i64 v']) :=
  ⟨setRow_heap _ _ _ _ _ _ ((setRow_other _ _ _ _ hQT).trans h.q), (setRow_other _ _ _ _ (Ne.symm hQT)).trans (setRow_heap _ _ _ _ _ _ h.t), hp.away a1 b1 c1 (.rows _ _ _), hp'.away a2 b2 c2 (.rows _ _ _), a1, b1, c1, a2, b2, c2, hl⟩
theorem below_rows {B Q T : Nat} {a w : World} {r s : Array Value} (h : Below B a w) (hQ : B ≤ Q) (hT : B ≤ T) : Below B a ((w.drew.setRow T r).setRow Q s) :=
  setRow_below (setRow_below ⟨h.os, h.tape, h.output, h.size, h.block⟩ hT) hQ
theorem below_alloc_le (w : World) (o : Obj) : w.heap.size ≤ (w.alloc o).heap.size := by
  have : (w.heap.push o).size = w.heap.size + 1 := Array.size_push _
  show w.heap.size ≤ (w.heap.push o).size
  omega
set_option maxHeartbeats 4000000 in
theorem walkN (f : Int) (A B : Option Addr) (n c m d : Nat) (ns : List Int) (vs : List PosV) (w : World) (HL : Hid (LaidIn G0 w)) (hf : 0 ≤ f ∧ f ≤ 65535) (hn : Sl (Value.int .u16) w A n ns) (hns : ∀ x ∈ ns, 0 ≤ x ∧ x ≤ 65535) (hv : Sln 8 PosV.cells w B m vs) (hvs : ∀ v ∈ vs, v.Good w) :
    Calls Tryz.prog 4 #[.int .u16 f, .slice A n c, .slice B m d] w fun e w' => e = .returned (.bool true) ∧ Below w.heap.size w w' := by
  have HN := Lib.hid hn
  have HNS := Lib.hid hns
  have HV := Lib.hid hv
  have HVS := Lib.hid hvs
  have hw1 : IntKind.i64.wrap f = f := by simp [IntKind.wrap, IntKind.bits, IntKind.signed]; omega
  have hw2 : IntKind.i32.wrap f = f := by simp [IntKind.wrap, IntKind.bits, IntKind.signed]; omega
  clear hn hns hv hvs
  go_enter Tryz.func4, Tryz.ntmps4
  go_wp2_with fail
  refine (openG (some ⟨w.heap.size, 0, none⟩) none none 1 1 0 0 0 0 (num1 f) f 5 3 _ (num_at w hf) (fun h => by cases h) (fun _ => rfl) (fun _ => rfl) (by omega) (by omega) (by omega) (within_num hf (by omega))).mono ?_
  rintro en w1 ⟨qA, qB, qC, qc, qd, qe, rfl, hown, hb1⟩
  have HB1 : Hid (Below w.heap.size w w1) := ((Below.refl _ w).alloc (Nat.le_refl _) _).trans (hb1.mono (below_alloc_le _ _))
  have HOWN := Lib.hid hown
  clear hown hb1
  go_wp2_with fail
  obtain ⟨z0, z1, z2, z3, z4⟩ := al3 w1 (.cells #[.int .i64 f, .int .i64 f, .slice qA 1 qc, .slice qB 0 qd, .slice qC 0 qe, .int .i64 (num1 f).roll.cell, .int .i64 (num1 f).roll.sides, .int .i64 (num1 f).roll.mover, .int .i64 (num1 f).roll.next, .int .u64 (num1 f).roll.sum, .int .i64 8] 38) (.cells #[.int .i32 f] 21) (.cells #[.slice (some ⟨w1.heap.size + 1, 0, none⟩) 1 1, .slice none 0 0, .slice none 0 0, .int .i64 0, .int .i64 0, .int .i64 0, .int .i64 0, .int .u64 0] 29)
  have hn1 := num_at w hf
  have hq1 : PosAt w1 qA qB qC 1 0 0 (num1 f) := HOWN.out.at_ hn1.w32 hn1.digs hn1.ok rfl
  have hs1 : (w1.alloc (.cells #[.int .i64 f, .int .i64 f, .slice qA 1 qc, .slice qB 0 qd, .slice qC 0 qe, .int .i64 (num1 f).roll.cell, .int .i64 (num1 f).roll.sides, .int .i64 (num1 f).roll.mover, .int .i64 (num1 f).roll.next, .int .u64 (num1 f).roll.sum, .int .i64 8] 38)).heap.size = w1.heap.size + 1 := Array.size_push _
  have hp1 := num_at (w1.alloc (.cells #[.int .i64 f, .int .i64 f, .slice qA 1 qc, .slice qB 0 qd, .slice qC 0 qe, .int .i64 (num1 f).roll.cell, .int .i64 (num1 f).roll.sides, .int .i64 (num1 f).roll.mover, .int .i64 (num1 f).roll.next, .int .u64 (num1 f).roll.sum, .int .i64 8] 38)) hf
  rw [hs1] at hp1
  have hp2 : PosAt (((w1.alloc (.cells #[.int .i64 f, .int .i64 f, .slice qA 1 qc, .slice qB 0 qd, .slice qC 0 qe, .int .i64 (num1 f).roll.cell, .int .i64 (num1 f).roll.sides, .int .i64 (num1 f).roll.mover, .int .i64 (num1 f).roll.next, .int .u64 (num1 f).roll.sum, .int .i64 8] 38)).alloc (.cells #[.int .i32 f] 21)).alloc (.cells #[.slice (some ⟨w1.heap.size + 1, 0, none⟩) 1 1, .slice none 0 0, .slice none 0 0, .int .i64 0, .int .i64 0, .int .i64 0, .int .i64 0, .int .u64 0] 29)) (some ⟨w1.heap.size + 1, 0, none⟩) none none 1 0 0 (num1 f) := hp1.below ((Below.refl _ _).alloc (Nat.le_refl _) _)
  have HI : Hid (NewAt w1.heap.size (w1.heap.size + 1 + 1) f (num1 f) qA qB qC (some ⟨w1.heap.size + 1, 0, none⟩) none none 1 qc 0 qd 0 qe 1 0 0 8 (((w1.alloc (.cells #[.int .i64 f, .int .i64 f, .slice qA 1 qc, .slice qB 0 qd, .slice qC 0 qe, .int .i64 (num1 f).roll.cell, .int .i64 (num1 f).roll.sides, .int .i64 (num1 f).roll.mover, .int .i64 (num1 f).roll.next, .int .u64 (num1 f).roll.sum, .int .i64 8] 38)).alloc (.cells #[.int .i32 f] 21)).alloc (.cells #[.slice (some ⟨w1.heap.size + 1, 0, none⟩) 1 1, .slice none 0 0, .slice none 0 0, .int .i64 0, .int .i64 0, .int .i64 0, .int .i64 0, .int .u64 0] 29))) :=
    ⟨z0, z2, hq1.below z4, hp2, fun _ => own_away_lt HOWN.out.vars (Nat.le_refl _) (by omega), fun _ => own_away_lt HOWN.out.gone (Nat.le_refl _) (by omega), fun _ => own_away_lt HOWN.out.tips (Nat.le_refl _) (by omega), fun _ => away_at (by omega) (by omega), fun _ => away_none _ _, fun _ => away_none _ _, by omega⟩
  have HZ : Hid (w1.heap.size + 3 ≤ (((w1.alloc (.cells #[.int .i64 f, .int .i64 f, .slice qA 1 qc, .slice qB 0 qd, .slice qC 0 qe, .int .i64 (num1 f).roll.cell, .int .i64 (num1 f).roll.sides, .int .i64 (num1 f).roll.mover, .int .i64 (num1 f).roll.next, .int .u64 (num1 f).roll.sum, .int .i64 8] 38)).alloc (.cells #[.int .i32 f] 21)).alloc (.cells #[.slice (some ⟨w1.heap.size + 1, 0, none⟩) 1 1, .slice none 0 0, .slice none 0 0, .int .i64 0, .int .i64 0, .int .i64 0, .int .i64 0, .int .u64 0] 29)).heap.size) := Nat.le_of_eq z3.symm
  have HB2 : Hid (Below w.heap.size w (((w1.alloc (.cells #[.int .i64 f, .int .i64 f, .slice qA 1 qc, .slice qB 0 qd, .slice qC 0 qe, .int .i64 (num1 f).roll.cell, .int .i64 (num1 f).roll.sides, .int .i64 (num1 f).roll.mover, .int .i64 (num1 f).roll.next, .int .u64 (num1 f).roll.sum, .int .i64 8] 38)).alloc (.cells #[.int .i32 f] 21)).alloc (.cells #[.slice (some ⟨w1.heap.size + 1, 0, none⟩) 1 1, .slice none 0 0, .slice none 0 0, .int .i64 0, .int .i64 0, .int .i64 0, .int .i64 0, .int .u64 0] 29))) := HB1.out.trans (z4.mono HB1.out.size)
  have hw9 := HB1.out.size
  generalize ((w1.alloc (.cells #[.int .i64 f, .int .i64 f, .slice qA 1 qc, .slice qB 0 qd, .slice qC 0 qe, .int .i64 (num1 f).roll.cell, .int .i64 (num1 f).roll.sides, .int .i64 (num1 f).roll.mover, .int .i64 (num1 f).roll.next, .int .u64 (num1 f).roll.sum, .int .i64 8] 38)).alloc (.cells #[.int .i32 f] 21)).alloc (.cells #[.slice (some ⟨w1.heap.size + 1, 0, none⟩) 1 1, .slice none 0 0, .slice none 0 0, .int .i64 0, .int .i64 0, .int .i64 0, .int .i64 0, .int .u64 0] 29) = W0 at HI HZ HB2 ⊢
  clear z0 z1 z2 z3 z4 hn1 hq1 hs1 hp1 hp2 HOWN HB1
  generalize w1.heap.size = Q at HI HZ hw9 ⊢
  go_loopw [9, 11] (fun s9 s11 wr => ∃ (i : Nat) (most : Int) (x : PosD) (A1 B1 C1 A2 B2 C2 : Option Addr) (n1 c1 m1 d1 k1 e1 c2 d2 e2 : Nat) (u : Int), i ≤ n ∧ (0 ≤ most ∧ most ≤ 65535) ∧ s9 = .int .i64 most ∧ s11 = .int .i64 i ∧ Hid (NewAt Q (Q + 1 + 1) most x A1 B1 C1 A2 B2 C2 n1 c1 m1 d1 k1 e1 c2 d2 e2 u wr) ∧ Hid (Q + 3 ≤ wr.heap.size) ∧ Hid (Below w.heap.size w wr)) (fun _ s11 _ => n - (intOf s11).toNat)
  case atStart => exact ⟨0, f, num1 f, qA, qB, qC, _, none, none, 1, qc, 0, qd, 0, qe, 1, 0, 0, 8, Nat.zero_le _, hf, rfl, rfl, HI.out, HZ.out, HB2.out⟩
  case round =>
    rename_i wr _
    obtain ⟨i, most, x, A1, B1, C1, A2, B2, C2, n1, c1, m1, d1, k1, e1, c2, d2, e2, u, hi, hmo, rfl, rfl, HAt, HZR, HBR⟩ := hrel
    by_cases h1 : i < n
    · by_cases h2 : i < 20
      · obtain ⟨b, off, v, rfl, hbw, hck, hv⟩ := (HN.out.below HBR.out).get h1
        have hv2 := HNS.out v (List.mem_of_getElem? hv.out)
        have hw3 : IntKind.i64.wrap v = v := by simp [IntKind.wrap, IntKind.bits, IntKind.signed]; omega
        have hw4 : IntKind.i32.wrap v = v := by simp [IntKind.wrap, IntKind.bits, IntKind.signed]; omega
        by_cases h3 : i < m
        · obtain ⟨b', off', pv, rfl, hbw', hcv, hpm⟩ := (HV.out.below HBR.out).get h3
          have hgood := HVS.out pv (List.mem_of_getElem? hpm.out)
          have HBA := al_below wr (.cells #[.int .i32 v] 21) (.cells #[.slice (some ⟨wr.heap.size, 0, none⟩) 1 1, .slice none 0 0, .slice none 0 0, .int .i64 0, .int .i64 0, .int .i64 0, .int .i64 0, .int .u64 0] 29)
          have e0 := (HBA.cell (p := ⟨b', off' + i * 8, none⟩) hbw').trans (hcv 0 _ rfl)
          have e1 := (HBA.cell (p := ⟨b', off' + i * 8 + 1, none⟩) hbw').trans (hcv 1 _ rfl)
          have e2 := (HBA.cell (p := ⟨b', off' + i * 8 + 2, none⟩) hbw').trans (hcv 2 _ rfl)
          have e3 := (HBA.cell (p := ⟨b', off' + i * 8 + 3, none⟩) hbw').trans (hcv 3 _ rfl)
          have e4 := (HBA.cell (p := ⟨b', off' + i * 8 + 4, none⟩) hbw').trans (hcv 4 _ rfl)
          have e5 := (HBA.cell (p := ⟨b', off' + i * 8 + 5, none⟩) hbw').trans (hcv 5 _ rfl)
          have e6 := (HBA.cell (p := ⟨b', off' + i * 8 + 6, none⟩) hbw').trans (hcv 6 _ rfl)
          have e7 := (HBA.cell (p := ⟨b', off' + i * 8 + 7, none⟩) hbw').trans (hcv 7 _ rfl)
          go_wp2_with fail
          refine (cut8 pv.A pv.B pv.C pv.n pv.c pv.m pv.d pv.k pv.e pv.y.roll.cell pv.y.roll.sides pv.y.roll.mover pv.y.roll.next pv.y.roll.sum _ hgood.ln hgood.lm hgood.lk).mono ?_
          rename_i K1 hK1
          rintro en w3 ⟨rfl, hb3⟩
          have HP3 := blk_below (al_snd wr (.cells #[.int .i32 v] 21) (.cells #[.slice (some ⟨wr.heap.size, 0, none⟩) 1 1, .slice none 0 0, .slice none 0 0, .int .i64 0, .int .i64 0, .int .i64 0, .int .i64 0, .int .u64 0] 29)) hb3 (blk_lt (al_snd wr (.cells #[.int .i32 v] 21) (.cells #[.slice (some ⟨wr.heap.size, 0, none⟩) 1 1, .slice none 0 0, .slice none 0 0, .int .i64 0, .int .i64 0, .int .i64 0, .int .i64 0, .int .u64 0] 29)))
          have HB3 := HBA.trans (hb3.mono HBA.size)
          clear e0 e1 e2 e3 e4 e5 e6 e7 HBA hb3 hcv
          refine hK1 _ _ ?_
          refine Go.BigFrame.wpList_want rfl (fun K hK => wp_skip' (run_st (ev_tmp rfl) (ev_tmp rfl) HP3 (by kernel_rfl) rfl (by kernel_rfl)) ?_)
          refine hK _ _ ?_
          clear hK K
          have HP2 := Lib.hid (setRow_heap w3 _ _ #[.slice pv.A (min pv.n 70) pv.c, .slice pv.B (min pv.m 10) pv.d, .slice pv.C (min pv.k 10) pv.e, .int .i64 pv.y.cut.roll.cell, .int .i64 pv.y.cut.roll.sides, .int .i64 pv.y.cut.roll.mover, .int .i64 pv.y.cut.roll.next, .int .u64 pv.y.cut.roll.sum] _ _ HP3)
          have HQ3 : Hid (Below wr.heap.size wr (w3.setRow (wr.heap.size + 1) #[.slice pv.A (min pv.n 70) pv.c, .slice pv.B (min pv.m 10) pv.d, .slice pv.C (min pv.k 10) pv.e, .int .i64 pv.y.cut.roll.cell, .int .i64 pv.y.cut.roll.sides, .int .i64 pv.y.cut.roll.mover, .int .i64 pv.y.cut.roll.next, .int .u64 pv.y.cut.roll.sum])) := setRow_below HB3 (Nat.le_add_right _ _)
          have HQ2 := Lib.hid (blk_below' HAt.out.q HQ3.out)
          have HB2 : Hid (Below w.heap.size w (w3.setRow (wr.heap.size + 1) #[.slice pv.A (min pv.n 70) pv.c, .slice pv.B (min pv.m 10) pv.d, .slice pv.C (min pv.k 10) pv.e, .int .i64 pv.y.cut.roll.cell, .int .i64 pv.y.cut.roll.sides, .int .i64 pv.y.cut.roll.mover, .int .i64 pv.y.cut.roll.next, .int .u64 pv.y.cut.roll.sum])) := HBR.out.trans (HQ3.out.mono HBR.out.size)
          have hp1 : PosAt (w3.setRow (wr.heap.size + 1) #[.slice pv.A (min pv.n 70) pv.c, .slice pv.B (min pv.m 10) pv.d, .slice pv.C (min pv.k 10) pv.e, .int .i64 pv.y.cut.roll.cell, .int .i64 pv.y.cut.roll.sides, .int .i64 pv.y.cut.roll.mover, .int .i64 pv.y.cut.roll.next, .int .u64 pv.y.cut.roll.sum]) pv.A pv.B pv.C (min pv.n 70) (min pv.m 10) (min pv.k 10) pv.y.cut := hgood.at_.cut.below HB2.out
          change wpList _ _ _ _ _ (w3.setRow (wr.heap.size + 1) #[.slice pv.A (min pv.n 70) pv.c, .slice pv.B (min pv.m 10) pv.d, .slice pv.C (min pv.k 10) pv.e, .int .i64 pv.y.cut.roll.cell, .int .i64 pv.y.cut.roll.sides, .int .i64 pv.y.cut.roll.mover, .int .i64 pv.y.cut.roll.next, .int .u64 pv.y.cut.roll.sum])
          generalize w3.setRow (wr.heap.size + 1) #[.slice pv.A (min pv.n 70) pv.c, .slice pv.B (min pv.m 10) pv.d, .slice pv.C (min pv.k 10) pv.e, .int .i64 pv.y.cut.roll.cell, .int .i64 pv.y.cut.roll.sides, .int .i64 pv.y.cut.roll.mover, .int .i64 pv.y.cut.roll.next, .int .u64 pv.y.cut.roll.sum] = W2 at HP2 HQ2 HQ3 HB2 hp1 ⊢
          clear HP3 HB3
          have q0 := blkC HQ2.out 0
          have q1 := blkC HQ2.out 1
          have q2 := blkC HQ2.out 2
          have q3 := blkC HQ2.out 3
          have q4 := blkC HQ2.out 4
          have q5 := blkC HQ2.out 5
          have q6 := blkC HQ2.out 6
          have q7 := blkC HQ2.out 7
          have q8 := blkC HQ2.out 8
          have q9 := blkC HQ2.out 9
          have q10 := blkC HQ2.out 10
          have p0 := blkC HP2.out 0
          have p1 := blkC HP2.out 1
          have p2 := blkC HP2.out 2
          have p3 := blkC HP2.out 3
          have p4 := blkC HP2.out 4
          have p5 := blkC HP2.out 5
          have p6 := blkC HP2.out 6
          have p7 := blkC HP2.out 7
          go_wp2_with fail
          have HC : withinC v (5 + i) 3 = 0 := by unfold withinC; rw [if_pos (by omega)]
          clear q0 q1 q2 q3 q4 q5 q6 q7 q8 q9 q10 p0 p1 p2 p3 p4 p5 p6 p7
          by_cases h4 : v ≤ most
          · refine (claimOld pv.A pv.B pv.C (min pv.n 70) pv.c (min pv.m 10) pv.d (min pv.k 10) pv.e pv.y.cut most (.int .i64 most) (.slice A1 n1 c1) (.slice B1 m1 d1) (.slice C1 k1 e1) (.int .i64 x.roll.cell) (.int .i64 x.roll.sides) (.int .i64 x.roll.mover) (.int .i64 x.roll.next) (.int .u64 x.roll.sum) (.int .i64 u) v (5 + i) 3 W2 HC h4).mono ?_
            rintro en w4 ⟨rfl, hb4⟩
            have HB4 := Lib.hid hb4
            clear hb4
            go_wp2_with fail
            refine (fsame0 _).mono ?_
            rintro en w5 ⟨rfl, hb5⟩
            have HB5 := Lib.hid hb5
            clear hb5
            go_wp2_with fail
            have HB45 : Below w4.heap.size w4 w5 := ((Below.refl _ w4).alloc (Nat.le_refl _) _).trans (HB5.out.mono (below_alloc_le _ _))
            have HB6 := HQ3.out.trans ((HB4.out.mono HQ3.out.size).trans (HB45.mono (Nat.le_trans HQ3.out.size HB4.out.size)))
            clear HB45
            have HAt6 := Lib.hid (HAt.out.below HB6)
            have HZ6 : Hid (Q + 3 ≤ w5.heap.size) := Nat.le_trans HZR.out HB6.size
            have HB7 : Hid (Below w.heap.size w w5) := HBR.out.trans (HB6.mono HBR.out.size)
            clear HB6
            go_roundw
            case rel => exact ⟨i + 1, most, x, A1, B1, C1, A2, B2, C2, n1, c1, m1, d1, k1, e1, c2, d2, e2, u, by omega, hmo, rfl, by go_num, HAt6.out, HZ6.out, HB7.out⟩
            case measure => simp [intOf]; omega
          · refine (claimG pv.A pv.B pv.C (min pv.n 70) pv.c (min pv.m 10) pv.d (min pv.k 10) pv.e pv.y.cut most (.int .i64 most) (.slice A1 n1 c1) (.slice B1 m1 d1) (.slice C1 k1 e1) (.int .i64 x.roll.cell) (.int .i64 x.roll.sides) (.int .i64 x.roll.mover) (.int .i64 x.roll.next) (.int .u64 x.roll.sum) (.int .i64 u) v (5 + i) 3 W2 HC h4 hp1 hgood.nA hgood.nB hgood.nC (by omega) (by omega) (by omega)).mono ?_
            rintro en w4 ⟨gA, gB, gC, gc, gd, ge, rfl, hown4, hb4⟩
            have HB4 := Lib.hid hb4
            have HOWN4 := Lib.hid hown4
            clear hb4 hown4
            go_wp2_with fail
            have HX4 : Hid ((w4.alloc (.cells #[.int .i64 v, .int .i64 v, .slice gA (min pv.n 70) gc, .slice gB (min pv.m 10) gd, .slice gC (min pv.k 10) ge, .int .i64 pv.y.cut.roll.cell, .int .i64 pv.y.cut.roll.sides, .int .i64 pv.y.cut.roll.mover, .int .i64 pv.y.cut.roll.next, .int .u64 pv.y.cut.roll.sum, .int .i64 (8 + i)] 38)).heap[w4.heap.size]? = _) := heap_alloc_new w4 (.cells #[.int .i64 v, .int .i64 v, .slice gA (min pv.n 70) gc, .slice gB (min pv.m 10) gd, .slice gC (min pv.k 10) ge, .int .i64 pv.y.cut.roll.cell, .int .i64 pv.y.cut.roll.sides, .int .i64 pv.y.cut.roll.mover, .int .i64 pv.y.cut.roll.next, .int .u64 pv.y.cut.roll.sum, .int .i64 (8 + i)] 38)
            have HB44 : Hid (Below w4.heap.size w4 (w4.alloc (.cells #[.int .i64 v, .int .i64 v, .slice gA (min pv.n 70) gc, .slice gB (min pv.m 10) gd, .slice gC (min pv.k 10) ge, .int .i64 pv.y.cut.roll.cell, .int .i64 pv.y.cut.roll.sides, .int .i64 pv.y.cut.roll.mover, .int .i64 pv.y.cut.roll.next, .int .u64 pv.y.cut.roll.sum, .int .i64 (8 + i)] 38))) := (Below.refl _ _).alloc (Nat.le_refl _) _
            have HB24 : Hid (Below W2.heap.size W2 (w4.alloc (.cells #[.int .i64 v, .int .i64 v, .slice gA (min pv.n 70) gc, .slice gB (min pv.m 10) gd, .slice gC (min pv.k 10) ge, .int .i64 pv.y.cut.roll.cell, .int .i64 pv.y.cut.roll.sides, .int .i64 pv.y.cut.roll.mover, .int .i64 pv.y.cut.roll.next, .int .u64 pv.y.cut.roll.sum, .int .i64 (8 + i)] 38))) := HB4.out.trans (HB44.out.mono HB4.out.size)
            have HP4 := Lib.hid (blk_below HP2.out HB24.out (blk_lt HP2.out))
            have HQ4 := Lib.hid (blk_below HQ2.out HB24.out (blk_lt HQ2.out))
            have HAt4 := Lib.hid (HAt.out.below (HQ3.out.trans (HB24.out.mono HQ3.out.size)))
            generalize w4.alloc (.cells #[.int .i64 v, .int .i64 v, .slice gA (min pv.n 70) gc, .slice gB (min pv.m 10) gd, .slice gC (min pv.k 10) ge, .int .i64 pv.y.cut.roll.cell, .int .i64 pv.y.cut.roll.sides, .int .i64 pv.y.cut.roll.mover, .int .i64 pv.y.cut.roll.next, .int .u64 pv.y.cut.roll.sum, .int .i64 (8 + i)] 38) = W4 at HX4 HB44 HB24 HP4 HQ4 HAt4 ⊢
            have hlp : wr.heap.size + 1 < W4.heap.size := blk_lt HP4.out
            have hlx : w4.heap.size < W4.heap.size := blk_lt HX4.out
            have hS : W4.drew.heap[wr.heap.size + 1]? = some (.cells #[.slice pv.A (min pv.n 70) pv.c, .slice pv.B (min pv.m 10) pv.d, .slice pv.C (min pv.k 10) pv.e, .int .i64 pv.y.cut.roll.cell, .int .i64 pv.y.cut.roll.sides, .int .i64 pv.y.cut.roll.mover, .int .i64 pv.y.cut.roll.next, .int .u64 pv.y.cut.roll.sum] 29 (0, 0)) ∧ W4.drew.heap[w4.heap.size]? = some (.cells #[.int .i64 v, .int .i64 v, .slice gA (min pv.n 70) gc, .slice gB (min pv.m 10) gd, .slice gC (min pv.k 10) ge, .int .i64 pv.y.cut.roll.cell, .int .i64 pv.y.cut.roll.sides, .int .i64 pv.y.cut.roll.mover, .int .i64 pv.y.cut.roll.next, .int .u64 pv.y.cut.roll.sum, .int .i64 (8 + i)] 38 (0, 0)) := ⟨HP4.out, HX4.out⟩
            have hgp : Q + 3 ≤ wr.heap.size := HZR.out
            have hgx : wr.heap.size ≤ w4.heap.size := Nat.le_trans HQ3.out.size HB4.out.size
            refine wp_region_sched [(0, 0), (1, 1), (2, 1), (3, 0), (4, 2), (5, 2)] (fun W => W.heap[wr.heap.size + 1]? = some (.cells #[.slice pv.A (min pv.n 70) pv.c, .slice pv.B (min pv.m 10) pv.d, .slice pv.C (min pv.k 10) pv.e, .int .i64 pv.y.cut.roll.cell, .int .i64 pv.y.cut.roll.sides, .int .i64 pv.y.cut.roll.mover, .int .i64 pv.y.cut.roll.next, .int .u64 pv.y.cut.roll.sum] 29 (0, 0)) ∧ W.heap[w4.heap.size]? = some (.cells #[.int .i64 v, .int .i64 v, .slice gA (min pv.n 70) gc, .slice gB (min pv.m 10) gd, .slice gC (min pv.k 10) ge, .int .i64 pv.y.cut.roll.cell, .int .i64 pv.y.cut.roll.sides, .int .i64 pv.y.cut.roll.mover, .int .i64 pv.y.cut.roll.next, .int .u64 pv.y.cut.roll.sum, .int .i64 (8 + i)] 38 (0, 0))) (by kernel_rfl) (by kernel_rfl) hS ?_
            change wpSched _ _ _ _ _ _ W4.drew
            refine sched0' rfl rfl (fun W => run_mv (ev_tmp rfl) W) (by (simp only [Act.put, List.getElem_toArray, List.getElem_cons_succ, List.getElem_cons_zero, List.setIfInBounds_toArray, List.set_cons_zero, List.set_cons_succ]; rfl)) ?_
            refine sched1' rfl rfl (fun W hW => by (have g0 := blkC hW.1 0; have g1 := blkC hW.1 1; have g2 := blkC hW.1 2; have g3 := blkC hW.1 3; have g4 := blkC hW.1 4; have g5 := blkC hW.1 5; have g6 := blkC hW.1 6; have g7 := blkC hW.1 7; clear hW; go_simp; try with_reducible rfl)) (by (simp only [Act.put, List.getElem_toArray, List.getElem_cons_succ, List.getElem_cons_zero, List.setIfInBounds_toArray, List.set_cons_zero, List.set_cons_succ]; rfl)) ?_
            refine sched1' rfl rfl (fun W hW => by (have g0 := blkC hW.2 0; have g1 := blkC hW.2 1; have g2 := blkC hW.2 2; have g3 := blkC hW.2 3; have g4 := blkC hW.2 4; have g5 := blkC hW.2 5; have g6 := blkC hW.2 6; have g7 := blkC hW.2 7; have g8 := blkC hW.2 8; have g9 := blkC hW.2 9; have g10 := blkC hW.2 10; clear hW; go_simp; try with_reducible rfl)) (by (simp only [Act.put, List.getElem_toArray, List.getElem_cons_succ, List.getElem_cons_zero, List.setIfInBounds_toArray, List.set_cons_zero, List.set_cons_succ]; rfl)) ?_
            refine sched0' rfl rfl (fun W => by (go_simp; try with_reducible rfl)) (by (simp only [Act.put, List.getElem_toArray, List.getElem_cons_succ, List.getElem_cons_zero, List.setIfInBounds_toArray, List.set_cons_zero, List.set_cons_succ]; rfl)) ?_
            have hn1 : wr.heap.size + 1 ≠ Q + 1 + 1 := by omega
            have hn2 : w4.heap.size ≠ Q + 1 + 1 := by omega
            have hn3 : wr.heap.size + 1 ≠ Q := by omega
            have hn4 : w4.heap.size ≠ Q := by omega
            have hn5 : Q ≠ Q + 1 + 1 := by omega
            have hg2 : Q + 3 ≤ W2.heap.size := Nat.le_trans hgp HQ3.out.size
            refine sched2 rfl rfl (fun K hK => wp_skip' (run_st (ev_tmp rfl) (ev_tmp rfl) HAt4.out.t (by kernel_rfl) rfl (by kernel_rfl)) ?_)
            refine hK _ _ ⟨(setRow_other _ _ _ _ hn1).trans hS.1, (setRow_other _ _ _ _ hn2).trans hS.2⟩ ?_
            clear hK K
            refine schedA (by ((try simp only [Act.put, List.getElem_toArray, List.getElem_cons_succ, List.getElem_cons_zero, List.setIfInBounds_toArray, List.set_cons_zero, List.set_cons_succ]); rfl)) ?_
            refine sched2 rfl rfl (fun K hK => wp_skip' (run_st (ev_tmp rfl) (ev_tmp rfl) ((setRow_other _ _ _ _ hn5).trans HAt4.out.q) (by kernel_rfl) rfl (by kernel_rfl)) ?_)
            refine hK _ _ ⟨(setRow_other _ _ _ _ hn3).trans ((setRow_other _ _ _ _ hn1).trans hS.1), (setRow_other _ _ _ _ hn4).trans ((setRow_other _ _ _ _ hn2).trans hS.2)⟩ ?_
            clear hK K
            refine schedA (by ((try simp only [Act.put, List.getElem_toArray, List.getElem_cons_succ, List.getElem_cons_zero, List.setIfInBounds_toArray, List.set_cons_zero, List.set_cons_succ]); rfl)) ?_
            change (Exit.inBlock 1 _) Exit.normal _ _
            have hpo : PosAt W4 gA gB gC (min pv.n 70) (min pv.m 10) (min pv.k 10) pv.y.cut := (HOWN4.out.at_ hp1.w32 hp1.digs hp1.ok hp1.tips.len).below HB44.out
            have HNew := HAt4.out.set hn5 v (8 + i) hpo (hp1.below HB24.out) (fun _ => own_away HOWN4.out.vars (by omega) (by omega)) (fun _ => own_away HOWN4.out.gone (by omega) (by omega)) (fun _ => own_away HOWN4.out.tips (by omega) (by omega)) (hgood.at_.cut.vars.lies hw9 (by omega)) (hgood.at_.cut.gone.lies hw9 (by omega)) (hgood.at_.cut.tips.lies hw9 (by omega)) (by omega) (gc := gc) (gd := gd) (ge := ge) (pc := pv.c) (pd := pv.d) (pe := pv.e)
            have HB9 : Hid (Below w.heap.size w W4) := HB2.out.trans (HB24.out.mono HB2.out.size)
            go_wp2_with fail
            go_roundw
            case rel => exact ⟨i + 1, v, pv.y.cut, gA, gB, gC, _, _, _, (min pv.n 70), gc, (min pv.m 10), gd, (min pv.k 10), ge, pv.c, pv.d, pv.e, 8 + i, by omega, hv2, rfl, by go_num, HNew, by (show Q + 3 ≤ _; simp; omega), below_rows HB9.out (by omega) (by omega)⟩
            case measure => simp [intOf]; omega
        · have HQ2 : Hid (((wr.alloc (.cells #[.int .i32 v] 21)).alloc (.cells #[.slice (some ⟨wr.heap.size, 0, none⟩) 1 1, .slice none 0 0, .slice none 0 0, .int .i64 0, .int .i64 0, .int .i64 0, .int .i64 0, .int .u64 0] 29)).heap[Q]? = _) := blk_below' HAt.out.q (al_below wr (.cells #[.int .i32 v] 21) (.cells #[.slice (some ⟨wr.heap.size, 0, none⟩) 1 1, .slice none 0 0, .slice none 0 0, .int .i64 0, .int .i64 0, .int .i64 0, .int .i64 0, .int .u64 0] 29))
          have HP2 := Lib.hid (al_snd wr (.cells #[.int .i32 v] 21) (.cells #[.slice (some ⟨wr.heap.size, 0, none⟩) 1 1, .slice none 0 0, .slice none 0 0, .int .i64 0, .int .i64 0, .int .i64 0, .int .i64 0, .int .u64 0] 29))
          have q0 := blkC HQ2.out 0
          have q1 := blkC HQ2.out 1
          have q2 := blkC HQ2.out 2
          have q3 := blkC HQ2.out 3
          have q4 := blkC HQ2.out 4
          have q5 := blkC HQ2.out 5
          have q6 := blkC HQ2.out 6
          have q7 := blkC HQ2.out 7
          have q8 := blkC HQ2.out 8
          have q9 := blkC HQ2.out 9
          have q10 := blkC HQ2.out 10
          have p0 := blkC HP2.out 0
          have p1 := blkC HP2.out 1
          have p2 := blkC HP2.out 2
          have p3 := blkC HP2.out 3
          have p4 := blkC HP2.out 4
          have p5 := blkC HP2.out 5
          have p6 := blkC HP2.out 6
          have p7 := blkC HP2.out 7
          go_wp2_with fail
          have HC : withinC v (5 + i) 3 = 0 := by unfold withinC; rw [if_pos (by omega)]
          have HB2 : Hid (Below w.heap.size w ((wr.alloc (.cells #[.int .i32 v] 21)).alloc (.cells #[.slice (some ⟨wr.heap.size, 0, none⟩) 1 1, .slice none 0 0, .slice none 0 0, .int .i64 0, .int .i64 0, .int .i64 0, .int .i64 0, .int .u64 0] 29))) := HBR.out.trans ((al_below wr (.cells #[.int .i32 v] 21) (.cells #[.slice (some ⟨wr.heap.size, 0, none⟩) 1 1, .slice none 0 0, .slice none 0 0, .int .i64 0, .int .i64 0, .int .i64 0, .int .i64 0, .int .u64 0] 29)).mono HBR.out.size)
          have hp1 : PosAt ((wr.alloc (.cells #[.int .i32 v] 21)).alloc (.cells #[.slice (some ⟨wr.heap.size, 0, none⟩) 1 1, .slice none 0 0, .slice none 0 0, .int .i64 0, .int .i64 0, .int .i64 0, .int .i64 0, .int .u64 0] 29)) (some ⟨wr.heap.size, 0, none⟩) none none 1 0 0 (num1 v) := (num_at wr hv2).below ((Below.refl _ _).alloc (Nat.le_refl _) _)
          have HQ3 : Hid (Below wr.heap.size wr ((wr.alloc (.cells #[.int .i32 v] 21)).alloc (.cells #[.slice (some ⟨wr.heap.size, 0, none⟩) 1 1, .slice none 0 0, .slice none 0 0, .int .i64 0, .int .i64 0, .int .i64 0, .int .i64 0, .int .u64 0] 29))) := al_below wr (.cells #[.int .i32 v] 21) (.cells #[.slice (some ⟨wr.heap.size, 0, none⟩) 1 1, .slice none 0 0, .slice none 0 0, .int .i64 0, .int .i64 0, .int .i64 0, .int .i64 0, .int .u64 0] 29)
          clear q0 q1 q2 q3 q4 q5 q6 q7 q8 q9 q10 p0 p1 p2 p3 p4 p5 p6 p7
          generalize (wr.alloc (.cells #[.int .i32 v] 21)).alloc (.cells #[.slice (some ⟨wr.heap.size, 0, none⟩) 1 1, .slice none 0 0, .slice none 0 0, .int .i64 0, .int .i64 0, .int .i64 0, .int .i64 0, .int .u64 0] 29) = W2 at HQ2 HP2 HB2 hp1 HQ3 ⊢
          by_cases h4 : v ≤ most
          · refine (claimOld (some ⟨wr.heap.size, 0, none⟩) none none 1 1 0 0 0 0 (num1 v) most (.int .i64 most) (.slice A1 n1 c1) (.slice B1 m1 d1) (.slice C1 k1 e1) (.int .i64 x.roll.cell) (.int .i64 x.roll.sides) (.int .i64 x.roll.mover) (.int .i64 x.roll.next) (.int .u64 x.roll.sum) (.int .i64 u) v (5 + i) 3 W2 HC h4).mono ?_
            rintro en w4 ⟨rfl, hb4⟩
            have HB4 := Lib.hid hb4
            clear hb4
            go_wp2_with fail
            refine (fsame0 _).mono ?_
            rintro en w5 ⟨rfl, hb5⟩
            have HB5 := Lib.hid hb5
            clear hb5
            go_wp2_with fail
            have HB45 : Below w4.heap.size w4 w5 := ((Below.refl _ w4).alloc (Nat.le_refl _) _).trans (HB5.out.mono (below_alloc_le _ _))
            have HB6 := HQ3.out.trans ((HB4.out.mono HQ3.out.size).trans (HB45.mono (Nat.le_trans HQ3.out.size HB4.out.size)))
            clear HB45
            have HAt6 := Lib.hid (HAt.out.below HB6)
            have HZ6 : Hid (Q + 3 ≤ w5.heap.size) := Nat.le_trans HZR.out HB6.size
            have HB7 : Hid (Below w.heap.size w w5) := HBR.out.trans (HB6.mono HBR.out.size)
            clear HB6
            go_roundw
            case rel => exact ⟨i + 1, most, x, A1, B1, C1, A2, B2, C2, n1, c1, m1, d1, k1, e1, c2, d2, e2, u, by omega, hmo, rfl, by go_num, HAt6.out, HZ6.out, HB7.out⟩
            case measure => simp [intOf]; omega
          · refine (claimG (some ⟨wr.heap.size, 0, none⟩) none none 1 1 0 0 0 0 (num1 v) most (.int .i64 most) (.slice A1 n1 c1) (.slice B1 m1 d1) (.slice C1 k1 e1) (.int .i64 x.roll.cell) (.int .i64 x.roll.sides) (.int .i64 x.roll.mover) (.int .i64 x.roll.next) (.int .u64 x.roll.sum) (.int .i64 u) v (5 + i) 3 W2 HC h4 hp1 (fun h => by cases h) (fun _ => rfl) (fun _ => rfl) (by omega) (by omega) (by omega)).mono ?_
            rintro en w4 ⟨gA, gB, gC, gc, gd, ge, rfl, hown4, hb4⟩
            have HB4 := Lib.hid hb4
            have HOWN4 := Lib.hid hown4
            clear hb4 hown4
            go_wp2_with fail
            have HX4 : Hid ((w4.alloc (.cells #[.int .i64 v, .int .i64 v, .slice gA 1 gc, .slice gB 0 gd, .slice gC 0 ge, .int .i64 (num1 v).roll.cell, .int .i64 (num1 v).roll.sides, .int .i64 (num1 v).roll.mover, .int .i64 (num1 v).roll.next, .int .u64 (num1 v).roll.sum, .int .i64 (8 + i)] 38)).heap[w4.heap.size]? = _) := heap_alloc_new w4 (.cells #[.int .i64 v, .int .i64 v, .slice gA 1 gc, .slice gB 0 gd, .slice gC 0 ge, .int .i64 (num1 v).roll.cell, .int .i64 (num1 v).roll.sides, .int .i64 (num1 v).roll.mover, .int .i64 (num1 v).roll.next, .int .u64 (num1 v).roll.sum, .int .i64 (8 + i)] 38)
            have HB44 : Hid (Below w4.heap.size w4 (w4.alloc (.cells #[.int .i64 v, .int .i64 v, .slice gA 1 gc, .slice gB 0 gd, .slice gC 0 ge, .int .i64 (num1 v).roll.cell, .int .i64 (num1 v).roll.sides, .int .i64 (num1 v).roll.mover, .int .i64 (num1 v).roll.next, .int .u64 (num1 v).roll.sum, .int .i64 (8 + i)] 38))) := (Below.refl _ _).alloc (Nat.le_refl _) _
            have HB24 : Hid (Below W2.heap.size W2 (w4.alloc (.cells #[.int .i64 v, .int .i64 v, .slice gA 1 gc, .slice gB 0 gd, .slice gC 0 ge, .int .i64 (num1 v).roll.cell, .int .i64 (num1 v).roll.sides, .int .i64 (num1 v).roll.mover, .int .i64 (num1 v).roll.next, .int .u64 (num1 v).roll.sum, .int .i64 (8 + i)] 38))) := HB4.out.trans (HB44.out.mono HB4.out.size)
            have HP4 := Lib.hid (blk_below HP2.out HB24.out (blk_lt HP2.out))
            have HQ4 := Lib.hid (blk_below HQ2.out HB24.out (blk_lt HQ2.out))
            have HAt4 := Lib.hid (HAt.out.below (HQ3.out.trans (HB24.out.mono HQ3.out.size)))
            generalize w4.alloc (.cells #[.int .i64 v, .int .i64 v, .slice gA 1 gc, .slice gB 0 gd, .slice gC 0 ge, .int .i64 (num1 v).roll.cell, .int .i64 (num1 v).roll.sides, .int .i64 (num1 v).roll.mover, .int .i64 (num1 v).roll.next, .int .u64 (num1 v).roll.sum, .int .i64 (8 + i)] 38) = W4 at HX4 HB44 HB24 HP4 HQ4 HAt4 ⊢
            have hlp : wr.heap.size + 1 < W4.heap.size := blk_lt HP4.out
            have hlx : w4.heap.size < W4.heap.size := blk_lt HX4.out
            have hS : W4.drew.heap[wr.heap.size + 1]? = some (.cells #[.slice (some ⟨wr.heap.size, 0, none⟩) 1 1, .slice none 0 0, .slice none 0 0, .int .i64 0, .int .i64 0, .int .i64 0, .int .i64 0, .int .u64 0] 29 (0, 0)) ∧ W4.drew.heap[w4.heap.size]? = some (.cells #[.int .i64 v, .int .i64 v, .slice gA 1 gc, .slice gB 0 gd, .slice gC 0 ge, .int .i64 (num1 v).roll.cell, .int .i64 (num1 v).roll.sides, .int .i64 (num1 v).roll.mover, .int .i64 (num1 v).roll.next, .int .u64 (num1 v).roll.sum, .int .i64 (8 + i)] 38 (0, 0)) := ⟨HP4.out, HX4.out⟩
            have hgp : Q + 3 ≤ wr.heap.size := HZR.out
            have hgx : wr.heap.size ≤ w4.heap.size := Nat.le_trans HQ3.out.size HB4.out.size
            refine wp_region_sched [(0, 0), (1, 1), (2, 1), (3, 0), (4, 2), (5, 2)] (fun W => W.heap[wr.heap.size + 1]? = some (.cells #[.slice (some ⟨wr.heap.size, 0, none⟩) 1 1, .slice none 0 0, .slice none 0 0, .int .i64 0, .int .i64 0, .int .i64 0, .int .i64 0, .int .u64 0] 29 (0, 0)) ∧ W.heap[w4.heap.size]? = some (.cells #[.int .i64 v, .int .i64 v, .slice gA 1 gc, .slice gB 0 gd, .slice gC 0 ge, .int .i64 (num1 v).roll.cell, .int .i64 (num1 v).roll.sides, .int .i64 (num1 v).roll.mover, .int .i64 (num1 v).roll.next, .int .u64 (num1 v).roll.sum, .int .i64 (8 + i)] 38 (0, 0))) (by kernel_rfl) (by kernel_rfl) hS ?_
            change wpSched _ _ _ _ _ _ W4.drew
            refine sched0' rfl rfl (fun W => run_mv (ev_tmp rfl) W) (by (simp only [Act.put, List.getElem_toArray, List.getElem_cons_succ, List.getElem_cons_zero, List.setIfInBounds_toArray, List.set_cons_zero, List.set_cons_succ]; rfl)) ?_
            refine sched1' rfl rfl (fun W hW => by (have g0 := blkC hW.1 0; have g1 := blkC hW.1 1; have g2 := blkC hW.1 2; have g3 := blkC hW.1 3; have g4 := blkC hW.1 4; have g5 := blkC hW.1 5; have g6 := blkC hW.1 6; have g7 := blkC hW.1 7; clear hW; go_simp; try with_reducible rfl)) (by (simp only [Act.put, List.getElem_toArray, List.getElem_cons_succ, List.getElem_cons_zero, List.setIfInBounds_toArray, List.set_cons_zero, List.set_cons_succ]; rfl)) ?_
            refine sched1' rfl rfl (fun W hW => by (have g0 := blkC hW.2 0; have g1 := blkC hW.2 1; have g2 := blkC hW.2 2; have g3 := blkC hW.2 3; have g4 := blkC hW.2 4; have g5 := blkC hW.2 5; have g6 := blkC hW.2 6; have g7 := blkC hW.2 7; have g8 := blkC hW.2 8; have g9 := blkC hW.2 9; have g10 := blkC hW.2 10; clear hW; go_simp; try with_reducible rfl)) (by (simp only [Act.put, List.getElem_toArray, List.getElem_cons_succ, List.getElem_cons_zero, List.setIfInBounds_toArray, List.set_cons_zero, List.set_cons_succ]; rfl)) ?_
            refine sched0' rfl rfl (fun W => by (go_simp; try with_reducible rfl)) (by (simp only [Act.put, List.getElem_toArray, List.getElem_cons_succ, List.getElem_cons_zero, List.setIfInBounds_toArray, List.set_cons_zero, List.set_cons_succ]; rfl)) ?_
            have hn1 : wr.heap.size + 1 ≠ Q + 1 + 1 := by omega
            have hn2 : w4.heap.size ≠ Q + 1 + 1 := by omega
            have hn3 : wr.heap.size + 1 ≠ Q := by omega
            have hn4 : w4.heap.size ≠ Q := by omega
            have hn5 : Q ≠ Q + 1 + 1 := by omega
            have hg2 : Q + 3 ≤ W2.heap.size := Nat.le_trans hgp HQ3.out.size
            refine sched2 rfl rfl (fun K hK => wp_skip' (run_st (ev_tmp rfl) (ev_tmp rfl) HAt4.out.t (by kernel_rfl) rfl (by kernel_rfl)) ?_)
            refine hK _ _ ⟨(setRow_other _ _ _ _ hn1).trans hS.1, (setRow_other _ _ _ _ hn2).trans hS.2⟩ ?_
            clear hK K
            refine schedA (by ((try simp only [Act.put, List.getElem_toArray, List.getElem_cons_succ, List.getElem_cons_zero, List.setIfInBounds_toArray, List.set_cons_zero, List.set_cons_succ]); rfl)) ?_
            refine sched2 rfl rfl (fun K hK => wp_skip' (run_st (ev_tmp rfl) (ev_tmp rfl) ((setRow_other _ _ _ _ hn5).trans HAt4.out.q) (by kernel_rfl) rfl (by kernel_rfl)) ?_)
            refine hK _ _ ⟨(setRow_other _ _ _ _ hn3).trans ((setRow_other _ _ _ _ hn1).trans hS.1), (setRow_other _ _ _ _ hn4).trans ((setRow_other _ _ _ _ hn2).trans hS.2)⟩ ?_
            clear hK K
            refine schedA (by ((try simp only [Act.put, List.getElem_toArray, List.getElem_cons_succ, List.getElem_cons_zero, List.setIfInBounds_toArray, List.set_cons_zero, List.set_cons_succ]); rfl)) ?_
            change (Exit.inBlock 1 _) Exit.normal _ _
            have hpo : PosAt W4 gA gB gC 1 0 0 (num1 v) := (HOWN4.out.at_ hp1.w32 hp1.digs hp1.ok hp1.tips.len).below HB44.out
            have HNew := HAt4.out.set hn5 v (8 + i) hpo (hp1.below HB24.out) (fun _ => own_away HOWN4.out.vars (by omega) (by omega)) (fun _ => own_away HOWN4.out.gone (by omega) (by omega)) (fun _ => own_away HOWN4.out.tips (by omega) (by omega)) (fun _ => away_at (by omega) (by omega)) (fun _ => away_none _ _) (fun _ => away_none _ _) (by omega) (gc := gc) (gd := gd) (ge := ge) (pc := 1) (pd := 0) (pe := 0)
            have HB9 : Hid (Below w.heap.size w W4) := HB2.out.trans (HB24.out.mono HB2.out.size)
            go_wp2_with fail
            go_roundw
            case rel => exact ⟨i + 1, v, (num1 v), gA, gB, gC, _, _, _, 1, gc, 0, gd, 0, ge, 1, 0, 0, 8 + i, by omega, hv2, rfl, by go_num, HNew, by (show Q + 3 ≤ _; simp; omega), below_rows HB9.out (by omega) (by omega)⟩
            case measure => simp [intOf]; omega
      · go_wp2_with fail
        refine (known33 (HL.out.below HBR.out)).mono ?_
        rintro en w5 ⟨rfl, hb5⟩
        have HQ5 := blk_below HAt.out.q hb5 (blk_lt HAt.out.q)
        have HT5 := blk_below HAt.out.t hb5 (blk_lt HAt.out.t)
        have HB5 : Hid (Below w.heap.size w w5) := HBR.out.trans (hb5.mono HBR.out.size)
        have HP5 := Lib.hid (HAt.out.p.below hb5)
        have HR5 := Lib.hid (HAt.out.p'.below hb5)
        clear hb5
        have q0 := blkC HQ5 0
        have q1 := blkC HQ5 1
        have q2 := blkC HQ5 2
        have q3 := blkC HQ5 3
        have q4 := blkC HQ5 4
        have q5 := blkC HQ5 5
        have q6 := blkC HQ5 6
        have q7 := blkC HQ5 7
        have q8 := blkC HQ5 8
        have q9 := blkC HQ5 9
        have q10 := blkC HQ5 10
        have t0 := blkC HT5 0
        have t1 := blkC HT5 1
        have t2 := blkC HT5 2
        have t3 := blkC HT5 3
        have t4 := blkC HT5 4
        have t5 := blkC HT5 5
        have t6 := blkC HT5 6
        have t7 := blkC HT5 7
        clear HQ5 HT5
        go_wp2_with fail
        refine (sameP A1 B1 C1 A2 B2 C2 n1 c1 m1 d1 k1 e1 n1 c2 m1 d2 k1 e2 x x w5 HP5.out HR5.out HAt.out.low HAt.out.low).mono ?_
        rintro en w6 ⟨rfl, hb6⟩
        have HB6 : Hid (Below w.heap.size w w6) := HB5.out.trans (hb6.mono HB5.out.size)
        clear hb6
        go_wp2_with fail
        go_ret
        exact ⟨by simp, HB6.out⟩
    · go_wp2_with fail
      refine (known33 (HL.out.below HBR.out)).mono ?_
      rintro en w5 ⟨rfl, hb5⟩
      have HQ5 := blk_below HAt.out.q hb5 (blk_lt HAt.out.q)
      have HT5 := blk_below HAt.out.t hb5 (blk_lt HAt.out.t)
      have HB5 : Hid (Below w.heap.size w w5) := HBR.out.trans (hb5.mono HBR.out.size)
      have HP5 := Lib.hid (HAt.out.p.below hb5)
      have HR5 := Lib.hid (HAt.out.p'.below hb5)
      clear hb5
      have q0 := blkC HQ5 0
      have q1 := blkC HQ5 1
      have q2 := blkC HQ5 2
      have q3 := blkC HQ5 3
      have q4 := blkC HQ5 4
      have q5 := blkC HQ5 5
      have q6 := blkC HQ5 6
      have q7 := blkC HQ5 7
      have q8 := blkC HQ5 8
      have q9 := blkC HQ5 9
      have q10 := blkC HQ5 10
      have t0 := blkC HT5 0
      have t1 := blkC HT5 1
      have t2 := blkC HT5 2
      have t3 := blkC HT5 3
      have t4 := blkC HT5 4
      have t5 := blkC HT5 5
      have t6 := blkC HT5 6
      have t7 := blkC HT5 7
      clear HQ5 HT5
      go_wp2_with fail
      refine (sameP A1 B1 C1 A2 B2 C2 n1 c1 m1 d1 k1 e1 n1 c2 m1 d2 k1 e2 x x w5 HP5.out HR5.out HAt.out.low HAt.out.low).mono ?_
      rintro en w6 ⟨rfl, hb6⟩
      have HB6 : Hid (Below w.heap.size w w6) := HB5.out.trans (hb6.mono HB5.out.size)
      clear hb6
      go_wp2_with fail
      go_ret
      exact ⟨by simp, HB6.out⟩
end Go.Proofs.YthnjebcablpneaaGreatDoor
