/- The law of fractions: the walk. -/
import Derived.Test.YtamjbnfmpfgjcaaGreatDoorFrac3
import Derived.Test.YtamjbnfmpfgjcaaGreatDoorEvR2
import Derived.Test.YtamjbnfmpfgjcaaGreatDoorFeq
import Derived.Test.YtamjbnfmpfgjcaaGreatDoorKnownS
set_option maxRecDepth 100000
namespace Go.Proofs.YtamjbnfmpfgjcaaGreatDoor
open Go.RowKit Go.Ev
/-- A fraction within the bounds. -/
def FrOK (a b : Int) : Prop := (-35184372088832 ≤ a ∧ a ≤ 35184372088832) ∧ 0 < b ∧ b ≤ 32768
theorem frOK_low {a b : Int} (h : FrOK a b) : FrOK (low a b) (lowD a b) := by
  obtain ⟨⟨h1, h2⟩, h3, h4⟩ := h
  have hg := gcd_pos a b h3
  have t1 := tdiv_le a _ hg
  have t2 := tdiv_le b _ hg
  have t3 := den_pos a b h3
  unfold low lowD
  exact ⟨⟨by omega, by omega⟩, t3, by omega⟩
theorem fr_mul {a b c d : Int} (h : FrOK a b) (k : FrOK c d) : -1152921504606846976 ≤ a * d ∧ a * d ≤ 1152921504606846976 := by
  obtain ⟨⟨h1, h2⟩, _, _⟩ := h
  obtain ⟨_, h5, h6⟩ := k
  have t1 : a * d ≤ 35184372088832 * d := Int.mul_le_mul_of_nonneg_right h2 (by omega)
  have t2 : (-35184372088832) * d ≤ a * d := Int.mul_le_mul_of_nonneg_right h1 (by omega)
  omega
theorem fr_den {b k m : Int} (h1 : 0 < b) (h2 : b ≤ 32768) (h3 : 0 < k) (h4 : k ≤ m) (hm : m ≤ 32768) : 0 < b * k ∧ b * k ≤ 1073741824 := by
  have t1 : b * k ≤ 32768 * k := Int.mul_le_mul_of_nonneg_right h2 (by omega)
  have t2 : 0 < b * k := Int.mul_pos h1 h3
  omega
theorem tri {a b c d : Int} (hb : 0 < b) (hd : 0 < d) (h1 : Int.gcd a b = 1) (h2 : Int.gcd c d = 1) :
    (decide (a * d < c * b) = true ∧ decide (c * b < a * d) = false ∧ (decide (a = c) && decide (b = d)) = false) ∨ (decide (a * d < c * b) = false ∧ decide (c * b < a * d) = true ∧ (decide (a = c) && decide (b = d)) = false) ∨
      (decide (a * d < c * b) = false ∧ decide (c * b < a * d) = false ∧ (decide (a = c) && decide (b = d)) = true) := by
  rcases Int.lt_trichotomy (a * d) (c * b) with h | h | h
  · refine .inl ⟨decide_eq_true h, decide_eq_false (by omega), ?_⟩
    rw [Bool.eq_false_iff]
    intro hh
    simp only [Bool.and_eq_true, decide_eq_true_eq] at hh
    obtain ⟨rfl, rfl⟩ := hh
    omega
  · obtain ⟨rfl, rfl⟩ := cross_eq hb hd h1 h2 h
    exact .inr (.inr ⟨decide_eq_false (by omega), decide_eq_false (by omega), by simp⟩)
  · refine .inr (.inl ⟨decide_eq_false (by omega), decide_eq_true h, ?_⟩)
    rw [Bool.eq_false_iff]
    intro hh
    simp only [Bool.and_eq_true, decide_eq_true_eq] at hh
    obtain ⟨rfl, rfl⟩ := hh
    omega
theorem set2 {V : World} {g : Nat} {T : TypeId} {a b : Value} (p q : Value) (h : V.heap[g]? = some (.cells #[a, b] T (0, 0))) :
    ((V.setCell ⟨g, 0, none⟩ p).setCell ⟨g, 1, none⟩ q).heap[g]? = some (.cells #[p, q] T (0, 0)) ∧ (∀ k, k ≠ g → ((V.setCell ⟨g, 0, none⟩ p).setCell ⟨g, 1, none⟩ q).heap[k]? = V.heap[k]?) ∧ ((V.setCell ⟨g, 0, none⟩ p).setCell ⟨g, 1, none⟩ q).heap.size = V.heap.size := by
  have e1 := heap_setCell_same V g 0 _ T p h
  have e2 := heap_setCell_same _ g 1 _ T q e1
  exact ⟨e2, fun k hk => (heap_setCell_other (V.setCell ⟨g, 0, none⟩ p) ⟨g, 1, none⟩ k q hk).trans (heap_setCell_other V ⟨g, 0, none⟩ k p hk), by simp [World.setCell]⟩
set_option maxHeartbeats 8000000 in
theorem walk1 (a0 a1 b0 b1 n : Int) (w : World) (w1 : (Lit.int .i64 a0).wf = true) (w2 : (Lit.int .i64 a1).wf = true) (w3 : (Lit.int .i64 b0).wf = true) (w4 : (Lit.int .i64 b1).wf = true) (w5 : (Lit.int .i64 n).wf = true) (HL : Hid (LaidIn G0 w)) :
    Calls Tryz.prog 3 #[.agg #[.int .i64 a0, .int .i64 a1], .agg #[.int .i64 b0, .int .i64 b1], .int .i64 n] w fun e w' => e = .returned (.bool true) ∧ Below w.heap.size w w' := by
  have i1 := fun W => lawIn a0 (-35184372088832) 35184372088832 W w1 (by omega) (by omega)
  have i2 := fun W => lawIn a1 1 32768 W w2 (by omega) (by omega)
  have i3 := fun W => lawIn b0 (-35184372088832) 35184372088832 W w3 (by omega) (by omega)
  have i4 := fun W => lawIn b1 1 32768 W w4 (by omega) (by omega)
  have i5 := fun W => lawIn n 1 1000 W w5 (by omega) (by omega)
  have k1 := inR_b a0 (-35184372088832) 35184372088832 (by omega)
  have k2 := inR_b a1 1 32768 (by omega)
  have k3 := inR_b b0 (-35184372088832) 35184372088832 (by omega)
  have k4 := inR_b b1 1 32768 (by omega)
  have k5 := inR_b n 1 1000 (by omega)
  generalize inR a0 (-35184372088832) 35184372088832 = an at i1 k1 ⊢
  generalize inR a1 1 32768 = ad at i2 k2 ⊢
  generalize inR b0 (-35184372088832) 35184372088832 = bn at i3 k3 ⊢
  generalize inR b1 1 32768 = bd at i4 k4 ⊢
  generalize inR n 1 1000 = k at i5 k5 ⊢
  have I1 := Lib.hid i1
  have I2 := Lib.hid i2
  have I3 := Lib.hid i3
  have I4 := Lib.hid i4
  have I5 := Lib.hid i5
  have K1 := Lib.hid k1
  have K2 := Lib.hid k2
  have K3 := Lib.hid k3
  have K4 := Lib.hid k4
  have K5 := Lib.hid k5
  have HG0 := Lib.hid (al_fst w (.cells #[.int .i64 a0, .int .i64 a1] 22) (.cells #[.int .i64 b0, .int .i64 b1] 22))
  have HG1 := Lib.hid (al_snd w (.cells #[.int .i64 a0, .int .i64 a1] 22) (.cells #[.int .i64 b0, .int .i64 b1] 22))
  have HB0 := Lib.hid (al_below w (.cells #[.int .i64 a0, .int .i64 a1] 22) (.cells #[.int .i64 b0, .int .i64 b1] 22))
  clear i1 i2 i3 i4 i5 k1 k2 k3 k4 k5 w1 w2 w3 w4 w5
  go_enter Tryz.func3, Tryz.ntmps3
  go_wp2_with fail
  generalize (w.alloc (.cells #[.int .i64 a0, .int .i64 a1] 22)).alloc (.cells #[.int .i64 b0, .int .i64 b1] 22) = W0 at HG0 HG1 HB0 ⊢
  have HT : Hid (∀ W : World, W.heap = W0.heap → W.cell? ⟨w.heap.size, 0, none⟩ = some (.int .i64 a0) ∧ W.cell? ⟨w.heap.size, 1, none⟩ = some (.int .i64 a1) ∧ W.cell? ⟨w.heap.size + 1, 0, none⟩ = some (.int .i64 b0) ∧ W.cell? ⟨w.heap.size + 1, 1, none⟩ = some (.int .i64 b1)) := fun W hW => by
    have h0 : W.heap[w.heap.size]? = some (.cells #[.int .i64 a0, .int .i64 a1] 22 (0, 0)) := by rw [hW]; exact HG0.out
    have h1 : W.heap[w.heap.size + 1]? = some (.cells #[.int .i64 b0, .int .i64 b1] 22 (0, 0)) := by rw [hW]; exact HG1.out
    exact ⟨blkC h0 0, blkC h0 1, blkC h1 0, blkC h1 1⟩
  refine wp_region_sched [(0, 0), (1, 1), (3, 0), (4, 1), (6, 0), (7, 1), (9, 0), (10, 1), (2, 2), (5, 2), (8, 2), (11, 3), (12, 0), (13, 0), (14, 0), (15, 0)] (fun W => W.heap = W0.heap) (by kernel_rfl) (by kernel_rfl) rfl ?_
  repeat (first
    | (refine sched0' rfl rfl (fun W => by (go_simp; try with_reducible rfl)) (by ((try simp only [Act.put, List.setIfInBounds_toArray, List.set_cons_zero, List.set_cons_succ]); rfl)) ?_)
    | (refine sched1' rfl rfl (fun W hW => by (obtain ⟨c0, c1, c2, c3⟩ := HT.out W hW; go_simp; try with_reducible rfl)) (by ((try simp only [Act.put, List.setIfInBounds_toArray, List.set_cons_zero, List.set_cons_succ]); rfl)) ?_))
  refine sched2 rfl (by kernel_rfl) (fun K hK => ?_)
  go_simp
  refine (I1.out _).mono ?_
  rintro e w' ⟨rfl, rfl⟩
  refine hK _ _ rfl ?_
  clear hK K
  refine schedA (by ((try simp only [Act.put, List.getElem_toArray, List.getElem_cons_succ, List.getElem_cons_zero, List.setIfInBounds_toArray, List.set_cons_zero, List.set_cons_succ]); rfl)) ?_
  refine sched2 rfl (by kernel_rfl) (fun K hK => ?_)
  go_simp
  refine (I2.out _).mono ?_
  rintro e w' ⟨rfl, rfl⟩
  refine hK _ _ rfl ?_
  clear hK K
  refine schedA (by ((try simp only [Act.put, List.getElem_toArray, List.getElem_cons_succ, List.getElem_cons_zero, List.setIfInBounds_toArray, List.set_cons_zero, List.set_cons_succ]); rfl)) ?_
  refine sched2 rfl (by kernel_rfl) (fun K hK => ?_)
  go_simp
  refine (I3.out _).mono ?_
  rintro e w' ⟨rfl, rfl⟩
  refine hK _ _ rfl ?_
  clear hK K
  refine schedA (by ((try simp only [Act.put, List.getElem_toArray, List.getElem_cons_succ, List.getElem_cons_zero, List.setIfInBounds_toArray, List.set_cons_zero, List.set_cons_succ]); rfl)) ?_
  refine sched3 rfl (by kernel_rfl) (fun K hK => ?_)
  go_simp
  refine (I4.out _).mono ?_
  rintro e w' ⟨rfl, rfl⟩
  refine hK (fun W => W.heap = W0.heap) _ _ rfl ?_
  clear hK K
  refine schedA (by ((try simp only [Act.put, List.getElem_toArray, List.getElem_cons_succ, List.getElem_cons_zero, List.setIfInBounds_toArray, List.set_cons_zero, List.set_cons_succ]); rfl)) ?_
  repeat (refine sched0' rfl rfl (fun W => by (go_simp; try with_reducible rfl)) (by ((try simp only [Act.put, List.setIfInBounds_toArray, List.set_cons_zero, List.set_cons_succ]); rfl)) ?_)
  show Exit.then _ _ _ _ _
  rename_i hK0
  refine hK0 _ _ ?_
  clear hK0
  have HS1 : Hid (Below w.heap.size w W0.drew) := HB0.out.drew
  change Code.wp _ _ _ _ W0.drew
  generalize W0.drew = W1 at HS1 ⊢
  clear HT HG0 HG1 HB0 I1 I2 I3 I4
  obtain ⟨p1, p2⟩ := K1.out
  obtain ⟨p3, p4⟩ := K2.out
  obtain ⟨p5, p6⟩ := K3.out
  obtain ⟨p7, p8⟩ := K4.out
  obtain ⟨p9, p10⟩ := K5.out
  have HX : Hid (FrOK (low an ad) (lowD an ad)) := frOK_low ⟨⟨p1, p2⟩, by omega, p4⟩
  have HY : Hid (FrOK (low bn bd) (lowD bn bd)) := frOK_low ⟨⟨p5, p6⟩, by omega, p8⟩
  have HCPX : Hid (Int.gcd (low an ad) (lowD an ad) = 1) := low_gcd an ad (by omega)
  have HCPY : Hid (Int.gcd (low bn bd) (lowD bn bd) = 1) := low_gcd bn bd (by omega)
  have HCX := Lib.hid (fun W => solveOf an ad W (by omega) ⟨by omega, by omega⟩ ⟨by omega, by omega⟩)
  have HCY := Lib.hid (fun W => solveOf bn bd W (by omega) ⟨by omega, by omega⟩ ⟨by omega, by omega⟩)
  have HRX := Lib.hid (fun W => refOf an ad W (by omega) ⟨by omega, by omega⟩ ⟨by omega, by omega⟩)
  have HRY := Lib.hid (fun W => refOf bn bd W (by omega) ⟨by omega, by omega⟩ ⟨by omega, by omega⟩)
  have HL1 : Hid (∀ a b, FrOK a b → 0 < b * k ∧ b * k ≤ 1073741824) := fun a b h => fr_den h.2.1 h.2.2 (by omega) p10 (by omega)
  clear p1 p2 p3 p4 p5 p6 p7 p8 p9 p10 K1 K2 K3 K4 K5
  generalize low an ad = xn at HX HCX HRX HCPX ⊢
  generalize lowD an ad = xd at HX HCX HRX HCPX ⊢
  generalize low bn bd = yn at HY HCY HRY HCPY ⊢
  generalize lowD bn bd = yd at HY HCY HRY HCPY ⊢
  go_wp2_with fail
  refine (HCX.out _).mono ?_
  rintro e v1 ⟨rfl, hb1⟩
  have HV1 : Hid (Below w.heap.size w v1) := HS1.out.trans (hb1.mono HS1.out.size)
  clear hb1
  go_wp2_with fail
  refine (HCY.out _).mono ?_
  rintro e v2 ⟨rfl, hb2⟩
  have HV2 : Hid (Below w.heap.size w v2) := HV1.out.trans (hb2.mono HV1.out.size)
  clear hb2 HV1 HS1
  go_wp2_with fail
  have HX2 := Lib.hid (al_fst v2 (.cells #[.int .i64 xn, .int .i64 xd] 25) (.cells #[.int .i64 yn, .int .i64 yd] 25))
  have HY2 := Lib.hid (al_snd v2 (.cells #[.int .i64 xn, .int .i64 xd] 25) (.cells #[.int .i64 yn, .int .i64 yd] 25))
  have HZ2 := Lib.hid (al_size v2 (.cells #[.int .i64 xn, .int .i64 xd] 25) (.cells #[.int .i64 yn, .int .i64 yd] 25))
  have HV3 : Hid (Below w.heap.size w _) := HV2.out.trans ((al_below v2 (.cells #[.int .i64 xn, .int .i64 xd] 25) (.cells #[.int .i64 yn, .int .i64 yd] 25)).mono HV2.out.size)
  have HG : Hid (w.heap.size ≤ v2.heap.size) := HV2.out.size
  generalize hV3 : (v2.alloc (.cells #[.int .i64 xn, .int .i64 xd] 25)).alloc (.cells #[.int .i64 yn, .int .i64 yd] 25) = V3 at HX2 HY2 HZ2 HV3 ⊢
  clear hV3
  refine (HRX.out _).mono ?_
  rintro e v4 ⟨rfl, hb1⟩
  have HV4 : Hid (Below w.heap.size w v4) := HV3.out.trans (hb1.mono HV3.out.size)
  have HX4 := Lib.hid (blk_below' HX2.out hb1)
  have HY4 := Lib.hid (blk_below' HY2.out hb1)
  have HZ4 : Hid (v2.heap.size + 2 ≤ v4.heap.size) := by have h1 := hb1.size; have h2 := HZ2.out; show _ ≤ _; omega
  clear hb1 HX2 HY2 HZ2 HV3
  go_wp2_with fail
  refine (HRY.out _).mono ?_
  rintro e v5 ⟨rfl, hb1⟩
  have HV5 : Hid (Below w.heap.size w v5) := HV4.out.trans (hb1.mono HV4.out.size)
  have HX5 := Lib.hid (blk_below' HX4.out hb1)
  have HY5 := Lib.hid (blk_below' HY4.out hb1)
  have HZ5 : Hid (v2.heap.size + 2 ≤ v5.heap.size) := by have h1 := hb1.size; have h2 := HZ4.out; show _ ≤ _; omega
  clear hb1 HX4 HY4 HZ4 HV4
  go_wp2_with fail
  have HP6 := Lib.hid (al_fst v5 (.cells #[.int .i64 xn, .int .i64 xd] 27) (.cells #[.int .i64 yn, .int .i64 yd] 27))
  have HQ6 := Lib.hid (al_snd v5 (.cells #[.int .i64 xn, .int .i64 xd] 27) (.cells #[.int .i64 yn, .int .i64 yd] 27))
  have HZ6 := Lib.hid (al_size v5 (.cells #[.int .i64 xn, .int .i64 xd] 27) (.cells #[.int .i64 yn, .int .i64 yd] 27))
  have hbb := al_below v5 (.cells #[.int .i64 xn, .int .i64 xd] 27) (.cells #[.int .i64 yn, .int .i64 yd] 27)
  have HV6 : Hid (Below w.heap.size w _) := HV5.out.trans (hbb.mono HV5.out.size)
  have HX6 := Lib.hid (blk_below' HX5.out hbb)
  have HY6 := Lib.hid (blk_below' HY5.out hbb)
  generalize hV6 : (v5.alloc (.cells #[.int .i64 xn, .int .i64 xd] 27)).alloc (.cells #[.int .i64 yn, .int .i64 yd] 27) = V at HP6 HQ6 HZ6 HV6 HX6 HY6 ⊢
  clear hV6 hbb HX5 HY5 HV5
  generalize v5.heap.size = gp at HP6 HQ6 HZ6 HZ5 ⊢
  generalize v2.heap.size = gx at HX6 HY6 HZ5 HG ⊢
  refine (I5.out _).mono ?_
  rintro e w' ⟨rfl, rfl⟩
  clear I5
  go_wp2_with fail
  refine wp_region_hs [⟨6, fun g => .pointer (some ⟨g, 0, none⟩), .cells #[.int .i64 0, .int .i64 0] 25⟩, ⟨7, fun g => .pointer (some ⟨g, 0, none⟩), .cells #[.int .i64 0, .int .i64 0] 25⟩] [(0, 1), (1, 1), (3, 1), (4, 0), (2, 2), (5, 2), (6, 4), (7, 5)] [(8, 3), (9, 3)]
    (fun W => (((W.heap[gx]? = some (.cells #[.int .i64 xn, .int .i64 xd] 25 (0, 0)) ∧ W.heap[gx + 1]? = some (.cells #[.int .i64 yn, .int .i64 yd] 25 (0, 0))) ∧ W.heap[gp]? = some (.cells #[.int .i64 xn, .int .i64 xd] 27 (0, 0))) ∧ W.heap[gp + 1]? = some (.cells #[.int .i64 yn, .int .i64 yd] 27 (0, 0))) ∧ Below w.heap.size w W)
    (by kernel_rfl) (by kernel_rfl) (fun m hm => ?_) (((((Mono.blk _ _).and (Mono.blk _ _)).and (Mono.blk _ _)).and (Mono.blk _ _)).and (Mono.below w)) ⟨⟨⟨⟨HX6.out, HY6.out⟩, HP6.out⟩, HQ6.out⟩, HV6.out.drew⟩ ?_
  · simp only [List.mem_cons, List.not_mem_nil, or_false] at hm
    rcases hm with rfl | rfl
    · exact ⟨_, rfl, rfl, fun a W => by kernel_rfl⟩
    · exact ⟨_, rfl, rfl, fun a W => by kernel_rfl⟩
  repeat (first
    | (refine hs0' rfl rfl (fun W => by (go_simp; try with_reducible rfl)) (by ((try simp only [Act.put, List.setIfInBounds_toArray, List.set_cons_zero, List.set_cons_succ]); rfl)) ?_)
    | (refine hs1' rfl rfl (fun W hW => by (obtain ⟨⟨⟨⟨h1, h2⟩, _⟩, _⟩, _⟩ := hW; have c0 := blkC h1 0; have c1 := blkC h1 1; have c2 := blkC h2 0; have c3 := blkC h2 1; clear h1 h2; go_simp; try with_reducible rfl)) (by ((try simp only [Act.put, List.setIfInBounds_toArray, List.set_cons_zero, List.set_cons_succ]); rfl)) ?_))
  have hmx := fr_mul HX.out HY.out
  have hmy := fr_mul HY.out HX.out
  have hdd := fr_den HX.out.2.1 HX.out.2.2 HY.out.2.1 HY.out.2.2 (Int.le_refl _)
  have hkk := HL1.out _ _ HX.out
  have hxx := HX.out.1
  have HAD := Lib.hid (fun W => solveAdd xn xd yn yd W ⟨by omega, by omega⟩ ⟨by omega, by omega⟩ ⟨by omega, by omega⟩ ⟨by omega, by omega⟩ hdd.1)
  have HPT := Lib.hid (fun W => solvePart xn xd k W ⟨by omega, by omega⟩ ⟨by omega, by omega⟩ hkk.1)
  have HAR := Lib.hid (fun W => refAdd xn xd yn yd W ⟨by omega, by omega⟩ ⟨by omega, by omega⟩ ⟨by omega, by omega⟩ ⟨by omega, by omega⟩ hdd.1)
  have HPR := Lib.hid (fun W => refPart xn xd k W ⟨by omega, by omega⟩ ⟨by omega, by omega⟩ hkk.1)
  have HLS := Lib.hid (fun W => solveLess xn xd yn yd W ⟨by omega, by omega⟩ ⟨by omega, by omega⟩)
  have HLT := Lib.hid (fun W => solveLess yn yd xn xd W ⟨by omega, by omega⟩ ⟨by omega, by omega⟩)
  have HLR := Lib.hid (fun W => refLess xn xd yn yd W ⟨by omega, by omega⟩ ⟨by omega, by omega⟩)
  clear hmx hmy hdd hkk hxx HCX HCY HRX HRY HL1
  generalize low (xn * yd + yn * xd) (xd * yd) = sn at HAD HAR ⊢
  generalize lowD (xn * yd + yn * xd) (xd * yd) = sd at HAD HAR ⊢
  generalize low xn (xd * k) = tn at HPT HPR ⊢
  generalize lowD xn (xd * k) = td at HPT HPR ⊢
  refine hs2 rfl (by kernel_rfl) (fun W hW K hK => ?_)
  go_simp
  refine (HAD.out W).mono ?_
  rintro e w' ⟨rfl, hb⟩
  refine hK (fun _ => True) _ _ hb Mono.true_ trivial ?_
  clear hK K hb hW w' W
  refine hsA (by ((try simp only [Act.put, List.getElem_toArray, List.getElem_cons_succ, List.getElem_cons_zero, List.setIfInBounds_toArray, List.set_cons_zero, List.set_cons_succ]); rfl)) ?_
  refine hs2 rfl (by kernel_rfl) (fun W hW K hK => ?_)
  go_simp
  refine (HPT.out W).mono ?_
  rintro e w' ⟨rfl, hb⟩
  refine hK (fun _ => True) _ _ hb Mono.true_ trivial ?_
  clear hK K hb hW w' W
  refine hsA (by ((try simp only [Act.put, List.getElem_toArray, List.getElem_cons_succ, List.getElem_cons_zero, List.setIfInBounds_toArray, List.set_cons_zero, List.set_cons_succ]); rfl)) ?_
  refine hs4 rfl rfl (fun gs hgs => ?_)
  refine hsA (by ((try simp only [Act.put, List.setIfInBounds_toArray, List.set_cons_zero, List.set_cons_succ]); rfl)) ?_
  refine hs4 rfl rfl (fun gt hgt => ?_)
  refine hsA (by ((try simp only [Act.put, List.setIfInBounds_toArray, List.set_cons_zero, List.set_cons_succ]); rfl)) ?_
  refine hsT (fun W7 hW7 => ?_)
  obtain ⟨⟨⟨⟨⟨⟨⟨⟨q1, q2⟩, q3⟩, q4⟩, q5⟩, -⟩, -⟩, q6⟩, q7⟩ := hW7
  have hs0 : V.heap.size ≤ gs := by omega
  have ht0 : V.heap.size ≤ gt ∧ gt ≠ gs := by omega
  have hz6 := HZ6.out
  have hz5 := HZ5.out
  have hgg := HG.out
  clear hgs hgt HV6 HX6 HY6 HP6 HQ6
  have c0 := blkC q6 0
  have c1 := blkC q6 1
  have f0 := blkF q6 0
  have f1 := blkF q6 1
  refine sched3 rfl (by kernel_rfl) (fun K hK => ?_)
  go_simp
  refine hK (fun _ => True) _ _ trivial ?_
  clear hK K c0 c1 f0 f1
  refine schedA (by ((try simp only [Act.put, List.getElem_toArray, List.getElem_cons_succ, List.getElem_cons_zero, List.setIfInBounds_toArray, List.set_cons_zero, List.set_cons_succ]); rfl)) ?_
  obtain ⟨a1, a2, -⟩ := set2 (.int .i64 sn) (.int .i64 sd) q6
  have a5 := (q5.setCell (p := ⟨gs, 0, none⟩) (by show w.heap.size ≤ gs; omega) (.int .i64 sn)).setCell (p := ⟨gs, 1, none⟩) (by show w.heap.size ≤ gs; omega) (.int .i64 sd)
  generalize (W7.setCell ⟨gs, 0, none⟩ (.int .i64 sn)).setCell ⟨gs, 1, none⟩ (.int .i64 sd) = W8 at a1 a2 a5 ⊢
  have b1 := (a2 gx (by omega)).trans q1
  have b2 := (a2 (gx + 1) (by omega)).trans q2
  have b3 := (a2 gp (by omega)).trans q3
  have b4 := (a2 (gp + 1) (by omega)).trans q4
  have b7 := (a2 gt ht0.2).trans q7
  clear a2 q1 q2 q3 q4 q5 q6 q7
  have c0 := blkC b7 0
  have c1 := blkC b7 1
  have f0 := blkF b7 0
  have f1 := blkF b7 1
  refine sched3 rfl (by kernel_rfl) (fun K hK => ?_)
  go_simp
  refine hK (fun _ => True) _ _ trivial ?_
  clear hK K c0 c1 f0 f1
  refine schedA (by ((try simp only [Act.put, List.getElem_toArray, List.getElem_cons_succ, List.getElem_cons_zero, List.setIfInBounds_toArray, List.set_cons_zero, List.set_cons_succ]); rfl)) ?_
  obtain ⟨d1, d2, -⟩ := set2 (.int .i64 tn) (.int .i64 td) b7
  have d5 := (a5.setCell (p := ⟨gt, 0, none⟩) (by show w.heap.size ≤ gt; omega) (.int .i64 tn)).setCell (p := ⟨gt, 1, none⟩) (by show w.heap.size ≤ gt; omega) (.int .i64 td)
  generalize (W8.setCell ⟨gt, 0, none⟩ (.int .i64 tn)).setCell ⟨gt, 1, none⟩ (.int .i64 td) = W9 at d1 d2 d5 ⊢
  have HX9 := Lib.hid ((d2 gx (by omega)).trans b1)
  have HY9 := Lib.hid ((d2 (gx + 1) (by omega)).trans b2)
  have HP9 := Lib.hid ((d2 gp (by omega)).trans b3)
  have HQ9 := Lib.hid ((d2 (gp + 1) (by omega)).trans b4)
  have HS9 := Lib.hid ((d2 gs (Ne.symm ht0.2)).trans a1)
  have HT9 := Lib.hid d1
  have HB9 := Lib.hid d5
  clear d1 d2 d5 b1 b2 b3 b4 b7 a1 a5 hs0 ht0 hz6 hz5 hgg HZ6 HZ5 HG HAD HPT
  show Exit.then _ _ _ _ _
  rename_i hK0
  refine hK0 _ _ ?_
  clear hK0
  go_wp2_with fail
  rename_i hK6
  refine wp_region_sched [(0, 3), (1, 0), (2, 1), (3, 1), (4, 0), (5, 0), (6, 0), (7, 1), (8, 1), (9, 0), (10, 0), (11, 0), (12, 1), (13, 1), (14, 1), (15, 2), (16, 0), (17, 0), (18, 0), (19, 1), (20, 1), (21, 0), (22, 2), (23, 0), (24, 0), (25, 0), (26, 1), (27, 1), (29, 1), (30, 1), (28, 2), (31, 3), (32, 0), (33, 0), (34, 0), (35, 1), (36, 1), (37, 3), (38, 0), (39, 1), (40, 1), (41, 3), (42, 0), (43, 0), (44, 0), (45, 0), (46, 1), (47, 1), (48, 0), (49, 1), (50, 1), (51, 2), (52, 0), (53, 0), (54, 1), (55, 1), (56, 2), (57, 0), (58, 0), (59, 0), (60, 0), (61, 0)] (fun W => (((((W.heap[gx]? = some (.cells #[.int .i64 xn, .int .i64 xd] 25 (0, 0)) ∧ W.heap[gx + 1]? = some (.cells #[.int .i64 yn, .int .i64 yd] 25 (0, 0))) ∧ W.heap[gp]? = some (.cells #[.int .i64 xn, .int .i64 xd] 27 (0, 0))) ∧ W.heap[gp + 1]? = some (.cells #[.int .i64 yn, .int .i64 yd] 27 (0, 0))) ∧ W.heap[gs]? = some (.cells #[.int .i64 sn, .int .i64 sd] 25 (0, 0))) ∧ W.heap[gt]? = some (.cells #[.int .i64 tn, .int .i64 td] 25 (0, 0))) ∧ Below w.heap.size w W) (by kernel_rfl) (by kernel_rfl) ⟨⟨⟨⟨⟨⟨HX9.out, HY9.out⟩, HP9.out⟩, HQ9.out⟩, HS9.out⟩, HT9.out⟩, HB9.out.drew⟩ ?_
  have HM6 : Hid (Mono (fun W => (((((W.heap[gx]? = some (.cells #[.int .i64 xn, .int .i64 xd] 25 (0, 0)) ∧ W.heap[gx + 1]? = some (.cells #[.int .i64 yn, .int .i64 yd] 25 (0, 0))) ∧ W.heap[gp]? = some (.cells #[.int .i64 xn, .int .i64 xd] 27 (0, 0))) ∧ W.heap[gp + 1]? = some (.cells #[.int .i64 yn, .int .i64 yd] 27 (0, 0))) ∧ W.heap[gs]? = some (.cells #[.int .i64 sn, .int .i64 sd] 25 (0, 0))) ∧ W.heap[gt]? = some (.cells #[.int .i64 tn, .int .i64 td] 25 (0, 0))) ∧ Below w.heap.size w W)) := ((((((Mono.blk _ _).and (Mono.blk _ _)).and (Mono.blk _ _)).and (Mono.blk _ _)).and (Mono.blk _ _)).and (Mono.blk _ _)).and (Mono.below w)
  have hS : (fun W => (((((W.heap[gx]? = some (.cells #[.int .i64 xn, .int .i64 xd] 25 (0, 0)) ∧ W.heap[gx + 1]? = some (.cells #[.int .i64 yn, .int .i64 yd] 25 (0, 0))) ∧ W.heap[gp]? = some (.cells #[.int .i64 xn, .int .i64 xd] 27 (0, 0))) ∧ W.heap[gp + 1]? = some (.cells #[.int .i64 yn, .int .i64 yd] 27 (0, 0))) ∧ W.heap[gs]? = some (.cells #[.int .i64 sn, .int .i64 sd] 25 (0, 0))) ∧ W.heap[gt]? = some (.cells #[.int .i64 tn, .int .i64 td] 25 (0, 0))) ∧ Below w.heap.size w W) W9.drew := ⟨⟨⟨⟨⟨⟨HX9.out, HY9.out⟩, HP9.out⟩, HQ9.out⟩, HS9.out⟩, HT9.out⟩, HB9.out.drew⟩
  change wpSched _ _ _ _ _ _ W9.drew
  generalize W9.drew = W10 at hS ⊢
  clear HX9 HY9 HP9 HQ9 HS9 HT9 HB9
  have hf2 : ∀ (a b : Int) (W : World), (Op.equalIn 10000 25 (.agg #[.int .i64 a, .int .i64 b]) (.agg #[.int .i64 a, .int .i64 b])).run Tryz.prog W = .ok true W := fun a b W => by rw [frac_eq]; simp
  have HTB : Hid (Below w.heap.size w W10) := by exact hS.2
  generalize hS6 : (fun W => (((((W.heap[gx]? = some (.cells #[.int .i64 xn, .int .i64 xd] 25 (0, 0)) ∧ W.heap[gx + 1]? = some (.cells #[.int .i64 yn, .int .i64 yd] 25 (0, 0))) ∧ W.heap[gp]? = some (.cells #[.int .i64 xn, .int .i64 xd] 27 (0, 0))) ∧ W.heap[gp + 1]? = some (.cells #[.int .i64 yn, .int .i64 yd] 27 (0, 0))) ∧ W.heap[gs]? = some (.cells #[.int .i64 sn, .int .i64 sd] 25 (0, 0))) ∧ W.heap[gt]? = some (.cells #[.int .i64 tn, .int .i64 td] 25 (0, 0))) ∧ Below w.heap.size w W) = S6 at HM6 ⊢
  have hS : S6 W10 := by rw [← hS6]; exact hS
  have HS6 := Lib.hid hS6
  clear hS6
  refine sched3 rfl rfl (fun K hK => ?_)
  go_simp
  refine (told20 (HL.out.below HTB.out)).mono ?_
  rintro e w' ⟨rfl, hb⟩
  have hS := HM6.out _ _ hS hb
  refine hK S6 _ _ hS ?_
  clear hK K hb HTB
  refine schedA (by ((try simp only [Act.put, List.getElem_toArray, List.getElem_cons_succ, List.getElem_cons_zero, List.setIfInBounds_toArray, List.set_cons_zero, List.set_cons_succ]); rfl)) ?_
  have HALL : Hid (∃ (bl bg be : Bool), (∀ W, Calls Tryz.prog 13 #[.agg #[.int .i64 xn, .int .i64 xd], .agg #[.int .i64 yn, .int .i64 yd]] W fun e w' => e = .returned (.bool bl) ∧ Below W.heap.size W w') ∧
      (∀ W, Calls Tryz.prog 13 #[.agg #[.int .i64 yn, .int .i64 yd], .agg #[.int .i64 xn, .int .i64 xd]] W fun e w' => e = .returned (.bool bg) ∧ Below W.heap.size W w') ∧
      (∀ W, Calls Tryz.prog 14 #[.agg #[.int .i64 xn, .int .i64 xd], .agg #[.int .i64 yn, .int .i64 yd]] W fun e w' => e = .returned (.bool bl) ∧ Below W.heap.size W w') ∧
      (∀ W : World, (Op.equalIn 10000 25 (.agg #[.int .i64 xn, .int .i64 xd]) (.agg #[.int .i64 yn, .int .i64 yd])).run Tryz.prog W = .ok be W) ∧
      ((bl = true ∧ bg = false ∧ be = false) ∨ (bl = false ∧ bg = true ∧ be = false) ∨ (bl = false ∧ bg = false ∧ be = true))) :=
    ⟨_, _, _, HLS.out, HLT.out, HLR.out, fun W => frac_eq xn xd yn yd W, tri HX.out.2.1 HY.out.2.1 HCPX.out HCPY.out⟩
  clear HLS HLT HLR HX HY HCPX HCPY
  obtain ⟨bl, bg, be, c1, c2, c3, hf1, hcase⟩ := HALL.out
  have C1 := Lib.hid c1
  have C2 := Lib.hid c2
  have C3 := Lib.hid c3
  clear c1 c2 c3 HALL
  rcases hcase with ⟨rfl, rfl, rfl⟩ | ⟨rfl, rfl, rfl⟩ | ⟨rfl, rfl, rfl⟩
  · refine sched0' rfl rfl (fun W => run_mv (by first | exact ev_tmp rfl | exact ev_const) W) (by (simp only [Act.put, List.setIfInBounds_toArray, List.set_cons_zero, List.set_cons_succ]; rfl)) ?_
    refine sched1' rfl rfl (fun W hW => run_ld (by first | exact ev_tmp rfl | exact ev_const) (by (rw [← HS6.out] at hW; exact hW.1.1.1.1.1.1)) (by kernel_rfl) (by kernel_rfl)) (by (simp only [Act.put, List.setIfInBounds_toArray, List.set_cons_zero, List.set_cons_succ]; rfl)) ?_
    refine sched1' rfl rfl (fun W hW => run_ld (by first | exact ev_tmp rfl | exact ev_const) (by (rw [← HS6.out] at hW; exact hW.1.1.1.1.2)) (by kernel_rfl) (by kernel_rfl)) (by (simp only [Act.put, List.setIfInBounds_toArray, List.set_cons_zero, List.set_cons_succ]; rfl)) ?_
    refine sched0' rfl rfl (fun W => run_eqA (by first | exact ev_tmp rfl | exact ev_const) (by first | exact ev_tmp rfl | exact ev_const) (by kernel_rfl) (fun W => hf2 _ _ W) W) (by (simp only [Act.put, List.setIfInBounds_toArray, List.set_cons_zero, List.set_cons_succ]; rfl)) ?_
    refine sched0' rfl rfl (fun W => run_pickT (by first | exact ev_tmp rfl | exact ev_const) (by first | exact ev_tmp rfl | exact ev_const) W) (by (simp only [Act.put, List.setIfInBounds_toArray, List.set_cons_zero, List.set_cons_succ]; rfl)) ?_
    refine sched0' rfl rfl (fun W => run_mv (by first | exact ev_tmp rfl | exact ev_const) W) (by (simp only [Act.put, List.setIfInBounds_toArray, List.set_cons_zero, List.set_cons_succ]; rfl)) ?_
    refine sched1' rfl rfl (fun W hW => run_ld (by first | exact ev_tmp rfl | exact ev_const) (by (rw [← HS6.out] at hW; exact hW.1.1.1.1.1.2)) (by kernel_rfl) (by kernel_rfl)) (by (simp only [Act.put, List.setIfInBounds_toArray, List.set_cons_zero, List.set_cons_succ]; rfl)) ?_
    refine sched1' rfl rfl (fun W hW => run_ld (by first | exact ev_tmp rfl | exact ev_const) (by (rw [← HS6.out] at hW; exact hW.1.1.1.2)) (by kernel_rfl) (by kernel_rfl)) (by (simp only [Act.put, List.setIfInBounds_toArray, List.set_cons_zero, List.set_cons_succ]; rfl)) ?_
    refine sched0' rfl rfl (fun W => run_eqA (by first | exact ev_tmp rfl | exact ev_const) (by first | exact ev_tmp rfl | exact ev_const) (by kernel_rfl) (fun W => hf2 _ _ W) W) (by (simp only [Act.put, List.setIfInBounds_toArray, List.set_cons_zero, List.set_cons_succ]; rfl)) ?_
    refine sched0' rfl rfl (fun W => run_pickT (by first | exact ev_tmp rfl | exact ev_const) (by first | exact ev_tmp rfl | exact ev_const) W) (by (simp only [Act.put, List.setIfInBounds_toArray, List.set_cons_zero, List.set_cons_succ]; rfl)) ?_
    refine sched0' rfl rfl (fun W => run_mv (by first | exact ev_tmp rfl | exact ev_const) W) (by (simp only [Act.put, List.setIfInBounds_toArray, List.set_cons_zero, List.set_cons_succ]; rfl)) ?_
    refine sched1' rfl rfl (fun W hW => run_ld (by first | exact ev_tmp rfl | exact ev_const) (by (rw [← HS6.out] at hW; exact hW.1.1.2)) (by kernel_rfl) (by kernel_rfl)) (by (simp only [Act.put, List.setIfInBounds_toArray, List.set_cons_zero, List.set_cons_succ]; rfl)) ?_
    refine sched1' rfl rfl (fun W hW => run_ld (by first | exact ev_tmp rfl | exact ev_const) (by (rw [← HS6.out] at hW; exact hW.1.1.1.1.2)) (by kernel_rfl) (by kernel_rfl)) (by (simp only [Act.put, List.setIfInBounds_toArray, List.set_cons_zero, List.set_cons_succ]; rfl)) ?_
    refine sched1' rfl rfl (fun W hW => run_ld (by first | exact ev_tmp rfl | exact ev_const) (by (rw [← HS6.out] at hW; exact hW.1.1.1.2)) (by kernel_rfl) (by kernel_rfl)) (by (simp only [Act.put, List.setIfInBounds_toArray, List.set_cons_zero, List.set_cons_succ]; rfl)) ?_
    refine sched2 rfl rfl (fun K hK => ?_)
    go_simp
    refine (HAR.out _).mono ?_
    rintro e w' ⟨rfl, hb⟩
    have hS := HM6.out _ _ hS hb
    refine hK _ _ hS ?_
    clear hK K hb
    refine schedA (by ((try simp only [Act.put, List.getElem_toArray, List.getElem_cons_succ, List.getElem_cons_zero, List.setIfInBounds_toArray, List.set_cons_zero, List.set_cons_succ]); rfl)) ?_
    refine sched0' rfl rfl (fun W => run_eqA (by first | exact ev_tmp rfl | exact ev_const) (by first | exact ev_tmp rfl | exact ev_const) (by kernel_rfl) (fun W => hf2 _ _ W) W) (by (simp only [Act.put, List.setIfInBounds_toArray, List.set_cons_zero, List.set_cons_succ]; rfl)) ?_
    refine sched0' rfl rfl (fun W => run_pickT (by first | exact ev_tmp rfl | exact ev_const) (by first | exact ev_tmp rfl | exact ev_const) W) (by (simp only [Act.put, List.setIfInBounds_toArray, List.set_cons_zero, List.set_cons_succ]; rfl)) ?_
    refine sched0' rfl rfl (fun W => run_mv (by first | exact ev_tmp rfl | exact ev_const) W) (by (simp only [Act.put, List.setIfInBounds_toArray, List.set_cons_zero, List.set_cons_succ]; rfl)) ?_
    refine sched1' rfl rfl (fun W hW => run_ld (by first | exact ev_tmp rfl | exact ev_const) (by (rw [← HS6.out] at hW; exact hW.1.2)) (by kernel_rfl) (by kernel_rfl)) (by (simp only [Act.put, List.setIfInBounds_toArray, List.set_cons_zero, List.set_cons_succ]; rfl)) ?_
    refine sched1' rfl rfl (fun W hW => run_ld (by first | exact ev_tmp rfl | exact ev_const) (by (rw [← HS6.out] at hW; exact hW.1.1.1.1.2)) (by kernel_rfl) (by kernel_rfl)) (by (simp only [Act.put, List.setIfInBounds_toArray, List.set_cons_zero, List.set_cons_succ]; rfl)) ?_
    refine sched0' rfl rfl (fun W => run_mv (by first | exact ev_tmp rfl | exact ev_const) W) (by (simp only [Act.put, List.setIfInBounds_toArray, List.set_cons_zero, List.set_cons_succ]; rfl)) ?_
    refine sched2 rfl rfl (fun K hK => ?_)
    go_simp
    refine (HPR.out _).mono ?_
    rintro e w' ⟨rfl, hb⟩
    have hS := HM6.out _ _ hS hb
    refine hK _ _ hS ?_
    clear hK K hb
    refine schedA (by ((try simp only [Act.put, List.getElem_toArray, List.getElem_cons_succ, List.getElem_cons_zero, List.setIfInBounds_toArray, List.set_cons_zero, List.set_cons_succ]); rfl)) ?_
    refine sched0' rfl rfl (fun W => run_eqA (by first | exact ev_tmp rfl | exact ev_const) (by first | exact ev_tmp rfl | exact ev_const) (by kernel_rfl) (fun W => hf2 _ _ W) W) (by (simp only [Act.put, List.setIfInBounds_toArray, List.set_cons_zero, List.set_cons_succ]; rfl)) ?_
    refine sched0' rfl rfl (fun W => run_pickT (by first | exact ev_tmp rfl | exact ev_const) (by first | exact ev_tmp rfl | exact ev_const) W) (by (simp only [Act.put, List.setIfInBounds_toArray, List.set_cons_zero, List.set_cons_succ]; rfl)) ?_
    refine sched0' rfl rfl (fun W => run_mv (by first | exact ev_tmp rfl | exact ev_const) W) (by (simp only [Act.put, List.setIfInBounds_toArray, List.set_cons_zero, List.set_cons_succ]; rfl)) ?_
    refine sched1' rfl rfl (fun W hW => run_ld (by first | exact ev_tmp rfl | exact ev_const) (by (rw [← HS6.out] at hW; exact hW.1.1.1.1.1.1)) (by kernel_rfl) (by kernel_rfl)) (by (simp only [Act.put, List.setIfInBounds_toArray, List.set_cons_zero, List.set_cons_succ]; rfl)) ?_
    refine sched1' rfl rfl (fun W hW => run_ld (by first | exact ev_tmp rfl | exact ev_const) (by (rw [← HS6.out] at hW; exact hW.1.1.1.1.1.2)) (by kernel_rfl) (by kernel_rfl)) (by (simp only [Act.put, List.setIfInBounds_toArray, List.set_cons_zero, List.set_cons_succ]; rfl)) ?_
    refine sched1' rfl rfl (fun W hW => run_ld (by first | exact ev_tmp rfl | exact ev_const) (by (rw [← HS6.out] at hW; exact hW.1.1.1.1.2)) (by kernel_rfl) (by kernel_rfl)) (by (simp only [Act.put, List.setIfInBounds_toArray, List.set_cons_zero, List.set_cons_succ]; rfl)) ?_
    refine sched1' rfl rfl (fun W hW => run_ld (by first | exact ev_tmp rfl | exact ev_const) (by (rw [← HS6.out] at hW; exact hW.1.1.1.2)) (by kernel_rfl) (by kernel_rfl)) (by (simp only [Act.put, List.setIfInBounds_toArray, List.set_cons_zero, List.set_cons_succ]; rfl)) ?_
    refine sched2 rfl rfl (fun K hK => ?_)
    go_simp
    refine (C1.out _).mono ?_
    rintro e w' ⟨rfl, hb⟩
    have hS := HM6.out _ _ hS hb
    refine hK _ _ hS ?_
    clear hK K hb
    refine schedA (by ((try simp only [Act.put, List.getElem_toArray, List.getElem_cons_succ, List.getElem_cons_zero, List.setIfInBounds_toArray, List.set_cons_zero, List.set_cons_succ]); rfl)) ?_
    refine sched3 rfl rfl (fun K hK => ?_)
    go_simp
    refine (C3.out _).mono ?_
    rintro e w' ⟨rfl, hb⟩
    have hS := HM6.out _ _ hS hb
    refine hK S6 _ _ hS ?_
    clear hK K hb
    refine schedA (by ((try simp only [Act.put, List.getElem_toArray, List.getElem_cons_succ, List.getElem_cons_zero, List.setIfInBounds_toArray, List.set_cons_zero, List.set_cons_succ]); rfl)) ?_
    refine sched0' rfl rfl (fun W => run_eqB (by first | exact ev_tmp rfl | exact ev_const) (by first | exact ev_tmp rfl | exact ev_const) (by kernel_rfl) W) (by (simp only [Act.put, List.setIfInBounds_toArray, List.set_cons_zero, List.set_cons_succ]; rfl)) ?_
    refine sched0' rfl rfl (fun W => run_pickT (by first | exact ev_tmp rfl | exact ev_const) (by first | exact ev_tmp rfl | exact ev_const) W) (by (simp only [Act.put, List.setIfInBounds_toArray, List.set_cons_zero, List.set_cons_succ]; rfl)) ?_
    refine sched0' rfl rfl (fun W => run_mv (by first | exact ev_tmp rfl | exact ev_const) W) (by (simp only [Act.put, List.setIfInBounds_toArray, List.set_cons_zero, List.set_cons_succ]; rfl)) ?_
    refine sched1' rfl rfl (fun W hW => run_ld (by first | exact ev_tmp rfl | exact ev_const) (by (rw [← HS6.out] at hW; exact hW.1.1.1.1.1.1)) (by kernel_rfl) (by kernel_rfl)) (by (simp only [Act.put, List.setIfInBounds_toArray, List.set_cons_zero, List.set_cons_succ]; rfl)) ?_
    refine sched1' rfl rfl (fun W hW => run_ld (by first | exact ev_tmp rfl | exact ev_const) (by (rw [← HS6.out] at hW; exact hW.1.1.1.1.1.2)) (by kernel_rfl) (by kernel_rfl)) (by (simp only [Act.put, List.setIfInBounds_toArray, List.set_cons_zero, List.set_cons_succ]; rfl)) ?_
    refine sched3 rfl rfl (fun K hK => ?_)
    go_simp
    refine (C1.out _).mono ?_
    rintro e w' ⟨rfl, hb⟩
    have hS := HM6.out _ _ hS hb
    refine hK S6 _ _ hS ?_
    clear hK K hb
    refine schedA (by ((try simp only [Act.put, List.getElem_toArray, List.getElem_cons_succ, List.getElem_cons_zero, List.setIfInBounds_toArray, List.set_cons_zero, List.set_cons_succ]); rfl)) ?_
    refine sched0' rfl rfl (fun W => run_mv (by first | exact ev_tmp rfl | exact ev_const) W) (by (simp only [Act.put, List.setIfInBounds_toArray, List.set_cons_zero, List.set_cons_succ]; rfl)) ?_
    refine sched1' rfl rfl (fun W hW => run_ld (by first | exact ev_tmp rfl | exact ev_const) (by (rw [← HS6.out] at hW; exact hW.1.1.1.1.1.2)) (by kernel_rfl) (by kernel_rfl)) (by (simp only [Act.put, List.setIfInBounds_toArray, List.set_cons_zero, List.set_cons_succ]; rfl)) ?_
    refine sched1' rfl rfl (fun W hW => run_ld (by first | exact ev_tmp rfl | exact ev_const) (by (rw [← HS6.out] at hW; exact hW.1.1.1.1.1.1)) (by kernel_rfl) (by kernel_rfl)) (by (simp only [Act.put, List.setIfInBounds_toArray, List.set_cons_zero, List.set_cons_succ]; rfl)) ?_
    refine sched3 rfl rfl (fun K hK => ?_)
    go_simp
    refine (C2.out _).mono ?_
    rintro e w' ⟨rfl, hb⟩
    have hS := HM6.out _ _ hS hb
    refine hK S6 _ _ hS ?_
    clear hK K hb
    refine schedA (by ((try simp only [Act.put, List.getElem_toArray, List.getElem_cons_succ, List.getElem_cons_zero, List.setIfInBounds_toArray, List.set_cons_zero, List.set_cons_succ]); rfl)) ?_
    refine sched0' rfl rfl (fun W => run_pickT (by first | exact ev_tmp rfl | exact ev_const) (by first | exact ev_tmp rfl | exact ev_const) W) (by (simp only [Act.put, List.setIfInBounds_toArray, List.set_cons_zero, List.set_cons_succ]; rfl)) ?_
    refine sched0' rfl rfl (fun W => run_not (by first | exact ev_tmp rfl | exact ev_const) W) (by (simp only [Act.put, List.setIfInBounds_toArray, List.set_cons_zero, List.set_cons_succ]; rfl)) ?_
    refine sched0' rfl rfl (fun W => run_pickT (by first | exact ev_tmp rfl | exact ev_const) (by first | exact ev_tmp rfl | exact ev_const) W) (by (simp only [Act.put, List.setIfInBounds_toArray, List.set_cons_zero, List.set_cons_succ]; rfl)) ?_
    refine sched0' rfl rfl (fun W => run_mv (by first | exact ev_tmp rfl | exact ev_const) W) (by (simp only [Act.put, List.setIfInBounds_toArray, List.set_cons_zero, List.set_cons_succ]; rfl)) ?_
    refine sched1' rfl rfl (fun W hW => run_ld (by first | exact ev_tmp rfl | exact ev_const) (by (rw [← HS6.out] at hW; exact hW.1.1.1.1.1.1)) (by kernel_rfl) (by kernel_rfl)) (by (simp only [Act.put, List.setIfInBounds_toArray, List.set_cons_zero, List.set_cons_succ]; rfl)) ?_
    refine sched1' rfl rfl (fun W hW => run_ld (by first | exact ev_tmp rfl | exact ev_const) (by (rw [← HS6.out] at hW; exact hW.1.1.1.1.1.2)) (by kernel_rfl) (by kernel_rfl)) (by (simp only [Act.put, List.setIfInBounds_toArray, List.set_cons_zero, List.set_cons_succ]; rfl)) ?_
    refine sched0' rfl rfl (fun W => run_eqA (by first | exact ev_tmp rfl | exact ev_const) (by first | exact ev_tmp rfl | exact ev_const) (by kernel_rfl) (fun W => hf1 W) W) (by (simp only [Act.put, List.setIfInBounds_toArray, List.set_cons_zero, List.set_cons_succ]; rfl)) ?_
    refine sched1' rfl rfl (fun W hW => run_ld (by first | exact ev_tmp rfl | exact ev_const) (by (rw [← HS6.out] at hW; exact hW.1.1.1.1.1.1)) (by kernel_rfl) (by kernel_rfl)) (by (simp only [Act.put, List.setIfInBounds_toArray, List.set_cons_zero, List.set_cons_succ]; rfl)) ?_
    refine sched1' rfl rfl (fun W hW => run_ld (by first | exact ev_tmp rfl | exact ev_const) (by (rw [← HS6.out] at hW; exact hW.1.1.1.1.1.2)) (by kernel_rfl) (by kernel_rfl)) (by (simp only [Act.put, List.setIfInBounds_toArray, List.set_cons_zero, List.set_cons_succ]; rfl)) ?_
    refine sched2 rfl rfl (fun K hK => ?_)
    go_simp
    refine (C1.out _).mono ?_
    rintro e w' ⟨rfl, hb⟩
    have hS := HM6.out _ _ hS hb
    refine hK _ _ hS ?_
    clear hK K hb
    refine schedA (by ((try simp only [Act.put, List.getElem_toArray, List.getElem_cons_succ, List.getElem_cons_zero, List.setIfInBounds_toArray, List.set_cons_zero, List.set_cons_succ]); rfl)) ?_
    refine sched0' rfl rfl (fun W => run_not (by first | exact ev_tmp rfl | exact ev_const) W) (by (simp only [Act.put, List.setIfInBounds_toArray, List.set_cons_zero, List.set_cons_succ]; rfl)) ?_
    refine sched0' rfl rfl (fun W => run_mv (by first | exact ev_tmp rfl | exact ev_const) W) (by (simp only [Act.put, List.setIfInBounds_toArray, List.set_cons_zero, List.set_cons_succ]; rfl)) ?_
    refine sched1n' rfl rfl (by (simp only [Act.put, List.setIfInBounds_toArray, List.set_cons_zero, List.set_cons_succ]; rfl)) ?_
    refine sched1n' rfl rfl (by (simp only [Act.put, List.setIfInBounds_toArray, List.set_cons_zero, List.set_cons_succ]; rfl)) ?_
    refine sched2n rfl rfl hS ?_
    refine schedA (by (simp only [Act.put, List.setIfInBounds_toArray, List.set_cons_zero, List.set_cons_succ]; rfl)) ?_
    refine sched0n' rfl rfl (by (simp only [Act.put, List.setIfInBounds_toArray, List.set_cons_zero, List.set_cons_succ]; rfl)) ?_
    refine sched0' rfl rfl (fun W => run_pickF (by first | exact ev_tmp rfl | exact ev_const) (by first | exact ev_tmp rfl | exact ev_const) W) (by (simp only [Act.put, List.setIfInBounds_toArray, List.set_cons_zero, List.set_cons_succ]; rfl)) ?_
    refine sched0' rfl rfl (fun W => run_eqB (by first | exact ev_tmp rfl | exact ev_const) (by first | exact ev_tmp rfl | exact ev_const) (by kernel_rfl) W) (by (simp only [Act.put, List.setIfInBounds_toArray, List.set_cons_zero, List.set_cons_succ]; rfl)) ?_
    refine sched0' rfl rfl (fun W => run_pickT (by first | exact ev_tmp rfl | exact ev_const) (by first | exact ev_tmp rfl | exact ev_const) W) (by (simp only [Act.put, List.setIfInBounds_toArray, List.set_cons_zero, List.set_cons_succ]; rfl)) ?_
    refine sched0' rfl rfl (fun W => run_as (by first | exact ev_tmp rfl | exact ev_const) W) (by (simp only [Act.put, List.setIfInBounds_toArray, List.set_cons_zero, List.set_cons_succ]; rfl)) ?_
    refine hK6 _ _ ?_
    have HBE : Hid (Below w.heap.size w w') := by rw [← HS6.out] at hS; exact hS.2
    clear hK6 hS HM6 HS6
    go_wp2_with fail
    go_ret
    exact ⟨rfl, HBE.out⟩
  · refine sched0' rfl rfl (fun W => run_mv (by first | exact ev_tmp rfl | exact ev_const) W) (by (simp only [Act.put, List.setIfInBounds_toArray, List.set_cons_zero, List.set_cons_succ]; rfl)) ?_
    refine sched1' rfl rfl (fun W hW => run_ld (by first | exact ev_tmp rfl | exact ev_const) (by (rw [← HS6.out] at hW; exact hW.1.1.1.1.1.1)) (by kernel_rfl) (by kernel_rfl)) (by (simp only [Act.put, List.setIfInBounds_toArray, List.set_cons_zero, List.set_cons_succ]; rfl)) ?_
    refine sched1' rfl rfl (fun W hW => run_ld (by first | exact ev_tmp rfl | exact ev_const) (by (rw [← HS6.out] at hW; exact hW.1.1.1.1.2)) (by kernel_rfl) (by kernel_rfl)) (by (simp only [Act.put, List.setIfInBounds_toArray, List.set_cons_zero, List.set_cons_succ]; rfl)) ?_
    refine sched0' rfl rfl (fun W => run_eqA (by first | exact ev_tmp rfl | exact ev_const) (by first | exact ev_tmp rfl | exact ev_const) (by kernel_rfl) (fun W => hf2 _ _ W) W) (by (simp only [Act.put, List.setIfInBounds_toArray, List.set_cons_zero, List.set_cons_succ]; rfl)) ?_
    refine sched0' rfl rfl (fun W => run_pickT (by first | exact ev_tmp rfl | exact ev_const) (by first | exact ev_tmp rfl | exact ev_const) W) (by (simp only [Act.put, List.setIfInBounds_toArray, List.set_cons_zero, List.set_cons_succ]; rfl)) ?_
    refine sched0' rfl rfl (fun W => run_mv (by first | exact ev_tmp rfl | exact ev_const) W) (by (simp only [Act.put, List.setIfInBounds_toArray, List.set_cons_zero, List.set_cons_succ]; rfl)) ?_
    refine sched1' rfl rfl (fun W hW => run_ld (by first | exact ev_tmp rfl | exact ev_const) (by (rw [← HS6.out] at hW; exact hW.1.1.1.1.1.2)) (by kernel_rfl) (by kernel_rfl)) (by (simp only [Act.put, List.setIfInBounds_toArray, List.set_cons_zero, List.set_cons_succ]; rfl)) ?_
    refine sched1' rfl rfl (fun W hW => run_ld (by first | exact ev_tmp rfl | exact ev_const) (by (rw [← HS6.out] at hW; exact hW.1.1.1.2)) (by kernel_rfl) (by kernel_rfl)) (by (simp only [Act.put, List.setIfInBounds_toArray, List.set_cons_zero, List.set_cons_succ]; rfl)) ?_
    refine sched0' rfl rfl (fun W => run_eqA (by first | exact ev_tmp rfl | exact ev_const) (by first | exact ev_tmp rfl | exact ev_const) (by kernel_rfl) (fun W => hf2 _ _ W) W) (by (simp only [Act.put, List.setIfInBounds_toArray, List.set_cons_zero, List.set_cons_succ]; rfl)) ?_
    refine sched0' rfl rfl (fun W => run_pickT (by first | exact ev_tmp rfl | exact ev_const) (by first | exact ev_tmp rfl | exact ev_const) W) (by (simp only [Act.put, List.setIfInBounds_toArray, List.set_cons_zero, List.set_cons_succ]; rfl)) ?_
    refine sched0' rfl rfl (fun W => run_mv (by first | exact ev_tmp rfl | exact ev_const) W) (by (simp only [Act.put, List.setIfInBounds_toArray, List.set_cons_zero, List.set_cons_succ]; rfl)) ?_
    refine sched1' rfl rfl (fun W hW => run_ld (by first | exact ev_tmp rfl | exact ev_const) (by (rw [← HS6.out] at hW; exact hW.1.1.2)) (by kernel_rfl) (by kernel_rfl)) (by (simp only [Act.put, List.setIfInBounds_toArray, List.set_cons_zero, List.set_cons_succ]; rfl)) ?_
    refine sched1' rfl rfl (fun W hW => run_ld (by first | exact ev_tmp rfl | exact ev_const) (by (rw [← HS6.out] at hW; exact hW.1.1.1.1.2)) (by kernel_rfl) (by kernel_rfl)) (by (simp only [Act.put, List.setIfInBounds_toArray, List.set_cons_zero, List.set_cons_succ]; rfl)) ?_
    refine sched1' rfl rfl (fun W hW => run_ld (by first | exact ev_tmp rfl | exact ev_const) (by (rw [← HS6.out] at hW; exact hW.1.1.1.2)) (by kernel_rfl) (by kernel_rfl)) (by (simp only [Act.put, List.setIfInBounds_toArray, List.set_cons_zero, List.set_cons_succ]; rfl)) ?_
    refine sched2 rfl rfl (fun K hK => ?_)
    go_simp
    refine (HAR.out _).mono ?_
    rintro e w' ⟨rfl, hb⟩
    have hS := HM6.out _ _ hS hb
    refine hK _ _ hS ?_
    clear hK K hb
    refine schedA (by ((try simp only [Act.put, List.getElem_toArray, List.getElem_cons_succ, List.getElem_cons_zero, List.setIfInBounds_toArray, List.set_cons_zero, List.set_cons_succ]); rfl)) ?_
    refine sched0' rfl rfl (fun W => run_eqA (by first | exact ev_tmp rfl | exact ev_const) (by first | exact ev_tmp rfl | exact ev_const) (by kernel_rfl) (fun W => hf2 _ _ W) W) (by (simp only [Act.put, List.setIfInBounds_toArray, List.set_cons_zero, List.set_cons_succ]; rfl)) ?_
    refine sched0' rfl rfl (fun W => run_pickT (by first | exact ev_tmp rfl | exact ev_const) (by first | exact ev_tmp rfl | exact ev_const) W) (by (simp only [Act.put, List.setIfInBounds_toArray, List.set_cons_zero, List.set_cons_succ]; rfl)) ?_
    refine sched0' rfl rfl (fun W => run_mv (by first | exact ev_tmp rfl | exact ev_const) W) (by (simp only [Act.put, List.setIfInBounds_toArray, List.set_cons_zero, List.set_cons_succ]; rfl)) ?_
    refine sched1' rfl rfl (fun W hW => run_ld (by first | exact ev_tmp rfl | exact ev_const) (by (rw [← HS6.out] at hW; exact hW.1.2)) (by kernel_rfl) (by kernel_rfl)) (by (simp only [Act.put, List.setIfInBounds_toArray, List.set_cons_zero, List.set_cons_succ]; rfl)) ?_
    refine sched1' rfl rfl (fun W hW => run_ld (by first | exact ev_tmp rfl | exact ev_const) (by (rw [← HS6.out] at hW; exact hW.1.1.1.1.2)) (by kernel_rfl) (by kernel_rfl)) (by (simp only [Act.put, List.setIfInBounds_toArray, List.set_cons_zero, List.set_cons_succ]; rfl)) ?_
    refine sched0' rfl rfl (fun W => run_mv (by first | exact ev_tmp rfl | exact ev_const) W) (by (simp only [Act.put, List.setIfInBounds_toArray, List.set_cons_zero, List.set_cons_succ]; rfl)) ?_
    refine sched2 rfl rfl (fun K hK => ?_)
    go_simp
    refine (HPR.out _).mono ?_
    rintro e w' ⟨rfl, hb⟩
    have hS := HM6.out _ _ hS hb
    refine hK _ _ hS ?_
    clear hK K hb
    refine schedA (by ((try simp only [Act.put, List.getElem_toArray, List.getElem_cons_succ, List.getElem_cons_zero, List.setIfInBounds_toArray, List.set_cons_zero, List.set_cons_succ]); rfl)) ?_
    refine sched0' rfl rfl (fun W => run_eqA (by first | exact ev_tmp rfl | exact ev_const) (by first | exact ev_tmp rfl | exact ev_const) (by kernel_rfl) (fun W => hf2 _ _ W) W) (by (simp only [Act.put, List.setIfInBounds_toArray, List.set_cons_zero, List.set_cons_succ]; rfl)) ?_
    refine sched0' rfl rfl (fun W => run_pickT (by first | exact ev_tmp rfl | exact ev_const) (by first | exact ev_tmp rfl | exact ev_const) W) (by (simp only [Act.put, List.setIfInBounds_toArray, List.set_cons_zero, List.set_cons_succ]; rfl)) ?_
    refine sched0' rfl rfl (fun W => run_mv (by first | exact ev_tmp rfl | exact ev_const) W) (by (simp only [Act.put, List.setIfInBounds_toArray, List.set_cons_zero, List.set_cons_succ]; rfl)) ?_
    refine sched1' rfl rfl (fun W hW => run_ld (by first | exact ev_tmp rfl | exact ev_const) (by (rw [← HS6.out] at hW; exact hW.1.1.1.1.1.1)) (by kernel_rfl) (by kernel_rfl)) (by (simp only [Act.put, List.setIfInBounds_toArray, List.set_cons_zero, List.set_cons_succ]; rfl)) ?_
    refine sched1' rfl rfl (fun W hW => run_ld (by first | exact ev_tmp rfl | exact ev_const) (by (rw [← HS6.out] at hW; exact hW.1.1.1.1.1.2)) (by kernel_rfl) (by kernel_rfl)) (by (simp only [Act.put, List.setIfInBounds_toArray, List.set_cons_zero, List.set_cons_succ]; rfl)) ?_
    refine sched1' rfl rfl (fun W hW => run_ld (by first | exact ev_tmp rfl | exact ev_const) (by (rw [← HS6.out] at hW; exact hW.1.1.1.1.2)) (by kernel_rfl) (by kernel_rfl)) (by (simp only [Act.put, List.setIfInBounds_toArray, List.set_cons_zero, List.set_cons_succ]; rfl)) ?_
    refine sched1' rfl rfl (fun W hW => run_ld (by first | exact ev_tmp rfl | exact ev_const) (by (rw [← HS6.out] at hW; exact hW.1.1.1.2)) (by kernel_rfl) (by kernel_rfl)) (by (simp only [Act.put, List.setIfInBounds_toArray, List.set_cons_zero, List.set_cons_succ]; rfl)) ?_
    refine sched2 rfl rfl (fun K hK => ?_)
    go_simp
    refine (C1.out _).mono ?_
    rintro e w' ⟨rfl, hb⟩
    have hS := HM6.out _ _ hS hb
    refine hK _ _ hS ?_
    clear hK K hb
    refine schedA (by ((try simp only [Act.put, List.getElem_toArray, List.getElem_cons_succ, List.getElem_cons_zero, List.setIfInBounds_toArray, List.set_cons_zero, List.set_cons_succ]); rfl)) ?_
    refine sched3 rfl rfl (fun K hK => ?_)
    go_simp
    refine (C3.out _).mono ?_
    rintro e w' ⟨rfl, hb⟩
    have hS := HM6.out _ _ hS hb
    refine hK S6 _ _ hS ?_
    clear hK K hb
    refine schedA (by ((try simp only [Act.put, List.getElem_toArray, List.getElem_cons_succ, List.getElem_cons_zero, List.setIfInBounds_toArray, List.set_cons_zero, List.set_cons_succ]); rfl)) ?_
    refine sched0' rfl rfl (fun W => run_eqB (by first | exact ev_tmp rfl | exact ev_const) (by first | exact ev_tmp rfl | exact ev_const) (by kernel_rfl) W) (by (simp only [Act.put, List.setIfInBounds_toArray, List.set_cons_zero, List.set_cons_succ]; rfl)) ?_
    refine sched0' rfl rfl (fun W => run_pickT (by first | exact ev_tmp rfl | exact ev_const) (by first | exact ev_tmp rfl | exact ev_const) W) (by (simp only [Act.put, List.setIfInBounds_toArray, List.set_cons_zero, List.set_cons_succ]; rfl)) ?_
    refine sched0' rfl rfl (fun W => run_mv (by first | exact ev_tmp rfl | exact ev_const) W) (by (simp only [Act.put, List.setIfInBounds_toArray, List.set_cons_zero, List.set_cons_succ]; rfl)) ?_
    refine sched1' rfl rfl (fun W hW => run_ld (by first | exact ev_tmp rfl | exact ev_const) (by (rw [← HS6.out] at hW; exact hW.1.1.1.1.1.1)) (by kernel_rfl) (by kernel_rfl)) (by (simp only [Act.put, List.setIfInBounds_toArray, List.set_cons_zero, List.set_cons_succ]; rfl)) ?_
    refine sched1' rfl rfl (fun W hW => run_ld (by first | exact ev_tmp rfl | exact ev_const) (by (rw [← HS6.out] at hW; exact hW.1.1.1.1.1.2)) (by kernel_rfl) (by kernel_rfl)) (by (simp only [Act.put, List.setIfInBounds_toArray, List.set_cons_zero, List.set_cons_succ]; rfl)) ?_
    refine sched3 rfl rfl (fun K hK => ?_)
    go_simp
    refine (C1.out _).mono ?_
    rintro e w' ⟨rfl, hb⟩
    have hS := HM6.out _ _ hS hb
    refine hK S6 _ _ hS ?_
    clear hK K hb
    refine schedA (by ((try simp only [Act.put, List.getElem_toArray, List.getElem_cons_succ, List.getElem_cons_zero, List.setIfInBounds_toArray, List.set_cons_zero, List.set_cons_succ]); rfl)) ?_
    refine sched0' rfl rfl (fun W => run_mv (by first | exact ev_tmp rfl | exact ev_const) W) (by (simp only [Act.put, List.setIfInBounds_toArray, List.set_cons_zero, List.set_cons_succ]; rfl)) ?_
    refine sched1n' rfl rfl (by (simp only [Act.put, List.setIfInBounds_toArray, List.set_cons_zero, List.set_cons_succ]; rfl)) ?_
    refine sched1n' rfl rfl (by (simp only [Act.put, List.setIfInBounds_toArray, List.set_cons_zero, List.set_cons_succ]; rfl)) ?_
    refine sched3n rfl rfl hS ?_
    refine schedA (by (simp only [Act.put, List.setIfInBounds_toArray, List.set_cons_zero, List.set_cons_succ]; rfl)) ?_
    refine sched0' rfl rfl (fun W => run_pickF (by first | exact ev_tmp rfl | exact ev_const) (by first | exact ev_tmp rfl | exact ev_const) W) (by (simp only [Act.put, List.setIfInBounds_toArray, List.set_cons_zero, List.set_cons_succ]; rfl)) ?_
    refine sched0' rfl rfl (fun W => run_not (by first | exact ev_tmp rfl | exact ev_const) W) (by (simp only [Act.put, List.setIfInBounds_toArray, List.set_cons_zero, List.set_cons_succ]; rfl)) ?_
    refine sched0' rfl rfl (fun W => run_pickT (by first | exact ev_tmp rfl | exact ev_const) (by first | exact ev_tmp rfl | exact ev_const) W) (by (simp only [Act.put, List.setIfInBounds_toArray, List.set_cons_zero, List.set_cons_succ]; rfl)) ?_
    refine sched0' rfl rfl (fun W => run_mv (by first | exact ev_tmp rfl | exact ev_const) W) (by (simp only [Act.put, List.setIfInBounds_toArray, List.set_cons_zero, List.set_cons_succ]; rfl)) ?_
    refine sched1' rfl rfl (fun W hW => run_ld (by first | exact ev_tmp rfl | exact ev_const) (by (rw [← HS6.out] at hW; exact hW.1.1.1.1.1.1)) (by kernel_rfl) (by kernel_rfl)) (by (simp only [Act.put, List.setIfInBounds_toArray, List.set_cons_zero, List.set_cons_succ]; rfl)) ?_
    refine sched1' rfl rfl (fun W hW => run_ld (by first | exact ev_tmp rfl | exact ev_const) (by (rw [← HS6.out] at hW; exact hW.1.1.1.1.1.2)) (by kernel_rfl) (by kernel_rfl)) (by (simp only [Act.put, List.setIfInBounds_toArray, List.set_cons_zero, List.set_cons_succ]; rfl)) ?_
    refine sched0' rfl rfl (fun W => run_eqA (by first | exact ev_tmp rfl | exact ev_const) (by first | exact ev_tmp rfl | exact ev_const) (by kernel_rfl) (fun W => hf1 W) W) (by (simp only [Act.put, List.setIfInBounds_toArray, List.set_cons_zero, List.set_cons_succ]; rfl)) ?_
    refine sched1' rfl rfl (fun W hW => run_ld (by first | exact ev_tmp rfl | exact ev_const) (by (rw [← HS6.out] at hW; exact hW.1.1.1.1.1.1)) (by kernel_rfl) (by kernel_rfl)) (by (simp only [Act.put, List.setIfInBounds_toArray, List.set_cons_zero, List.set_cons_succ]; rfl)) ?_
    refine sched1' rfl rfl (fun W hW => run_ld (by first | exact ev_tmp rfl | exact ev_const) (by (rw [← HS6.out] at hW; exact hW.1.1.1.1.1.2)) (by kernel_rfl) (by kernel_rfl)) (by (simp only [Act.put, List.setIfInBounds_toArray, List.set_cons_zero, List.set_cons_succ]; rfl)) ?_
    refine sched2 rfl rfl (fun K hK => ?_)
    go_simp
    refine (C1.out _).mono ?_
    rintro e w' ⟨rfl, hb⟩
    have hS := HM6.out _ _ hS hb
    refine hK _ _ hS ?_
    clear hK K hb
    refine schedA (by ((try simp only [Act.put, List.getElem_toArray, List.getElem_cons_succ, List.getElem_cons_zero, List.setIfInBounds_toArray, List.set_cons_zero, List.set_cons_succ]); rfl)) ?_
    refine sched0' rfl rfl (fun W => run_not (by first | exact ev_tmp rfl | exact ev_const) W) (by (simp only [Act.put, List.setIfInBounds_toArray, List.set_cons_zero, List.set_cons_succ]; rfl)) ?_
    refine sched0' rfl rfl (fun W => run_mv (by first | exact ev_tmp rfl | exact ev_const) W) (by (simp only [Act.put, List.setIfInBounds_toArray, List.set_cons_zero, List.set_cons_succ]; rfl)) ?_
    refine sched1' rfl rfl (fun W hW => run_ld (by first | exact ev_tmp rfl | exact ev_const) (by (rw [← HS6.out] at hW; exact hW.1.1.1.1.1.2)) (by kernel_rfl) (by kernel_rfl)) (by (simp only [Act.put, List.setIfInBounds_toArray, List.set_cons_zero, List.set_cons_succ]; rfl)) ?_
    refine sched1' rfl rfl (fun W hW => run_ld (by first | exact ev_tmp rfl | exact ev_const) (by (rw [← HS6.out] at hW; exact hW.1.1.1.1.1.1)) (by kernel_rfl) (by kernel_rfl)) (by (simp only [Act.put, List.setIfInBounds_toArray, List.set_cons_zero, List.set_cons_succ]; rfl)) ?_
    refine sched2 rfl rfl (fun K hK => ?_)
    go_simp
    refine (C2.out _).mono ?_
    rintro e w' ⟨rfl, hb⟩
    have hS := HM6.out _ _ hS hb
    refine hK _ _ hS ?_
    clear hK K hb
    refine schedA (by ((try simp only [Act.put, List.getElem_toArray, List.getElem_cons_succ, List.getElem_cons_zero, List.setIfInBounds_toArray, List.set_cons_zero, List.set_cons_succ]); rfl)) ?_
    refine sched0' rfl rfl (fun W => run_not (by first | exact ev_tmp rfl | exact ev_const) W) (by (simp only [Act.put, List.setIfInBounds_toArray, List.set_cons_zero, List.set_cons_succ]; rfl)) ?_
    refine sched0' rfl rfl (fun W => run_pickT (by first | exact ev_tmp rfl | exact ev_const) (by first | exact ev_tmp rfl | exact ev_const) W) (by (simp only [Act.put, List.setIfInBounds_toArray, List.set_cons_zero, List.set_cons_succ]; rfl)) ?_
    refine sched0' rfl rfl (fun W => run_eqB (by first | exact ev_tmp rfl | exact ev_const) (by first | exact ev_tmp rfl | exact ev_const) (by kernel_rfl) W) (by (simp only [Act.put, List.setIfInBounds_toArray, List.set_cons_zero, List.set_cons_succ]; rfl)) ?_
    refine sched0' rfl rfl (fun W => run_pickT (by first | exact ev_tmp rfl | exact ev_const) (by first | exact ev_tmp rfl | exact ev_const) W) (by (simp only [Act.put, List.setIfInBounds_toArray, List.set_cons_zero, List.set_cons_succ]; rfl)) ?_
    refine sched0' rfl rfl (fun W => run_as (by first | exact ev_tmp rfl | exact ev_const) W) (by (simp only [Act.put, List.setIfInBounds_toArray, List.set_cons_zero, List.set_cons_succ]; rfl)) ?_
    refine hK6 _ _ ?_
    have HBE : Hid (Below w.heap.size w w') := by rw [← HS6.out] at hS; exact hS.2
    clear hK6 hS HM6 HS6
    go_wp2_with fail
    go_ret
    exact ⟨rfl, HBE.out⟩
  · refine sched0' rfl rfl (fun W => run_mv (by first | exact ev_tmp rfl | exact ev_const) W) (by (simp only [Act.put, List.setIfInBounds_toArray, List.set_cons_zero, List.set_cons_succ]; rfl)) ?_
    refine sched1' rfl rfl (fun W hW => run_ld (by first | exact ev_tmp rfl | exact ev_const) (by (rw [← HS6.out] at hW; exact hW.1.1.1.1.1.1)) (by kernel_rfl) (by kernel_rfl)) (by (simp only [Act.put, List.setIfInBounds_toArray, List.set_cons_zero, List.set_cons_succ]; rfl)) ?_
    refine sched1' rfl rfl (fun W hW => run_ld (by first | exact ev_tmp rfl | exact ev_const) (by (rw [← HS6.out] at hW; exact hW.1.1.1.1.2)) (by kernel_rfl) (by kernel_rfl)) (by (simp only [Act.put, List.setIfInBounds_toArray, List.set_cons_zero, List.set_cons_succ]; rfl)) ?_
    refine sched0' rfl rfl (fun W => run_eqA (by first | exact ev_tmp rfl | exact ev_const) (by first | exact ev_tmp rfl | exact ev_const) (by kernel_rfl) (fun W => hf2 _ _ W) W) (by (simp only [Act.put, List.setIfInBounds_toArray, List.set_cons_zero, List.set_cons_succ]; rfl)) ?_
    refine sched0' rfl rfl (fun W => run_pickT (by first | exact ev_tmp rfl | exact ev_const) (by first | exact ev_tmp rfl | exact ev_const) W) (by (simp only [Act.put, List.setIfInBounds_toArray, List.set_cons_zero, List.set_cons_succ]; rfl)) ?_
    refine sched0' rfl rfl (fun W => run_mv (by first | exact ev_tmp rfl | exact ev_const) W) (by (simp only [Act.put, List.setIfInBounds_toArray, List.set_cons_zero, List.set_cons_succ]; rfl)) ?_
    refine sched1' rfl rfl (fun W hW => run_ld (by first | exact ev_tmp rfl | exact ev_const) (by (rw [← HS6.out] at hW; exact hW.1.1.1.1.1.2)) (by kernel_rfl) (by kernel_rfl)) (by (simp only [Act.put, List.setIfInBounds_toArray, List.set_cons_zero, List.set_cons_succ]; rfl)) ?_
    refine sched1' rfl rfl (fun W hW => run_ld (by first | exact ev_tmp rfl | exact ev_const) (by (rw [← HS6.out] at hW; exact hW.1.1.1.2)) (by kernel_rfl) (by kernel_rfl)) (by (simp only [Act.put, List.setIfInBounds_toArray, List.set_cons_zero, List.set_cons_succ]; rfl)) ?_
    refine sched0' rfl rfl (fun W => run_eqA (by first | exact ev_tmp rfl | exact ev_const) (by first | exact ev_tmp rfl | exact ev_const) (by kernel_rfl) (fun W => hf2 _ _ W) W) (by (simp only [Act.put, List.setIfInBounds_toArray, List.set_cons_zero, List.set_cons_succ]; rfl)) ?_
    refine sched0' rfl rfl (fun W => run_pickT (by first | exact ev_tmp rfl | exact ev_const) (by first | exact ev_tmp rfl | exact ev_const) W) (by (simp only [Act.put, List.setIfInBounds_toArray, List.set_cons_zero, List.set_cons_succ]; rfl)) ?_
    refine sched0' rfl rfl (fun W => run_mv (by first | exact ev_tmp rfl | exact ev_const) W) (by (simp only [Act.put, List.setIfInBounds_toArray, List.set_cons_zero, List.set_cons_succ]; rfl)) ?_
    refine sched1' rfl rfl (fun W hW => run_ld (by first | exact ev_tmp rfl | exact ev_const) (by (rw [← HS6.out] at hW; exact hW.1.1.2)) (by kernel_rfl) (by kernel_rfl)) (by (simp only [Act.put, List.setIfInBounds_toArray, List.set_cons_zero, List.set_cons_succ]; rfl)) ?_
    refine sched1' rfl rfl (fun W hW => run_ld (by first | exact ev_tmp rfl | exact ev_const) (by (rw [← HS6.out] at hW; exact hW.1.1.1.1.2)) (by kernel_rfl) (by kernel_rfl)) (by (simp only [Act.put, List.setIfInBounds_toArray, List.set_cons_zero, List.set_cons_succ]; rfl)) ?_
    refine sched1' rfl rfl (fun W hW => run_ld (by first | exact ev_tmp rfl | exact ev_const) (by (rw [← HS6.out] at hW; exact hW.1.1.1.2)) (by kernel_rfl) (by kernel_rfl)) (by (simp only [Act.put, List.setIfInBounds_toArray, List.set_cons_zero, List.set_cons_succ]; rfl)) ?_
    refine sched2 rfl rfl (fun K hK => ?_)
    go_simp
    refine (HAR.out _).mono ?_
    rintro e w' ⟨rfl, hb⟩
    have hS := HM6.out _ _ hS hb
    refine hK _ _ hS ?_
    clear hK K hb
    refine schedA (by ((try simp only [Act.put, List.getElem_toArray, List.getElem_cons_succ, List.getElem_cons_zero, List.setIfInBounds_toArray, List.set_cons_zero, List.set_cons_succ]); rfl)) ?_
    refine sched0' rfl rfl (fun W => run_eqA (by first | exact ev_tmp rfl | exact ev_const) (by first | exact ev_tmp rfl | exact ev_const) (by kernel_rfl) (fun W => hf2 _ _ W) W) (by (simp only [Act.put, List.setIfInBounds_toArray, List.set_cons_zero, List.set_cons_succ]; rfl)) ?_
    refine sched0' rfl rfl (fun W => run_pickT (by first | exact ev_tmp rfl | exact ev_const) (by first | exact ev_tmp rfl | exact ev_const) W) (by (simp only [Act.put, List.setIfInBounds_toArray, List.set_cons_zero, List.set_cons_succ]; rfl)) ?_
    refine sched0' rfl rfl (fun W => run_mv (by first | exact ev_tmp rfl | exact ev_const) W) (by (simp only [Act.put, List.setIfInBounds_toArray, List.set_cons_zero, List.set_cons_succ]; rfl)) ?_
    refine sched1' rfl rfl (fun W hW => run_ld (by first | exact ev_tmp rfl | exact ev_const) (by (rw [← HS6.out] at hW; exact hW.1.2)) (by kernel_rfl) (by kernel_rfl)) (by (simp only [Act.put, List.setIfInBounds_toArray, List.set_cons_zero, List.set_cons_succ]; rfl)) ?_
    refine sched1' rfl rfl (fun W hW => run_ld (by first | exact ev_tmp rfl | exact ev_const) (by (rw [← HS6.out] at hW; exact hW.1.1.1.1.2)) (by kernel_rfl) (by kernel_rfl)) (by (simp only [Act.put, List.setIfInBounds_toArray, List.set_cons_zero, List.set_cons_succ]; rfl)) ?_
    refine sched0' rfl rfl (fun W => run_mv (by first | exact ev_tmp rfl | exact ev_const) W) (by (simp only [Act.put, List.setIfInBounds_toArray, List.set_cons_zero, List.set_cons_succ]; rfl)) ?_
    refine sched2 rfl rfl (fun K hK => ?_)
    go_simp
    refine (HPR.out _).mono ?_
    rintro e w' ⟨rfl, hb⟩
    have hS := HM6.out _ _ hS hb
    refine hK _ _ hS ?_
    clear hK K hb
    refine schedA (by ((try simp only [Act.put, List.getElem_toArray, List.getElem_cons_succ, List.getElem_cons_zero, List.setIfInBounds_toArray, List.set_cons_zero, List.set_cons_succ]); rfl)) ?_
    refine sched0' rfl rfl (fun W => run_eqA (by first | exact ev_tmp rfl | exact ev_const) (by first | exact ev_tmp rfl | exact ev_const) (by kernel_rfl) (fun W => hf2 _ _ W) W) (by (simp only [Act.put, List.setIfInBounds_toArray, List.set_cons_zero, List.set_cons_succ]; rfl)) ?_
    refine sched0' rfl rfl (fun W => run_pickT (by first | exact ev_tmp rfl | exact ev_const) (by first | exact ev_tmp rfl | exact ev_const) W) (by (simp only [Act.put, List.setIfInBounds_toArray, List.set_cons_zero, List.set_cons_succ]; rfl)) ?_
    refine sched0' rfl rfl (fun W => run_mv (by first | exact ev_tmp rfl | exact ev_const) W) (by (simp only [Act.put, List.setIfInBounds_toArray, List.set_cons_zero, List.set_cons_succ]; rfl)) ?_
    refine sched1' rfl rfl (fun W hW => run_ld (by first | exact ev_tmp rfl | exact ev_const) (by (rw [← HS6.out] at hW; exact hW.1.1.1.1.1.1)) (by kernel_rfl) (by kernel_rfl)) (by (simp only [Act.put, List.setIfInBounds_toArray, List.set_cons_zero, List.set_cons_succ]; rfl)) ?_
    refine sched1' rfl rfl (fun W hW => run_ld (by first | exact ev_tmp rfl | exact ev_const) (by (rw [← HS6.out] at hW; exact hW.1.1.1.1.1.2)) (by kernel_rfl) (by kernel_rfl)) (by (simp only [Act.put, List.setIfInBounds_toArray, List.set_cons_zero, List.set_cons_succ]; rfl)) ?_
    refine sched1' rfl rfl (fun W hW => run_ld (by first | exact ev_tmp rfl | exact ev_const) (by (rw [← HS6.out] at hW; exact hW.1.1.1.1.2)) (by kernel_rfl) (by kernel_rfl)) (by (simp only [Act.put, List.setIfInBounds_toArray, List.set_cons_zero, List.set_cons_succ]; rfl)) ?_
    refine sched1' rfl rfl (fun W hW => run_ld (by first | exact ev_tmp rfl | exact ev_const) (by (rw [← HS6.out] at hW; exact hW.1.1.1.2)) (by kernel_rfl) (by kernel_rfl)) (by (simp only [Act.put, List.setIfInBounds_toArray, List.set_cons_zero, List.set_cons_succ]; rfl)) ?_
    refine sched2 rfl rfl (fun K hK => ?_)
    go_simp
    refine (C1.out _).mono ?_
    rintro e w' ⟨rfl, hb⟩
    have hS := HM6.out _ _ hS hb
    refine hK _ _ hS ?_
    clear hK K hb
    refine schedA (by ((try simp only [Act.put, List.getElem_toArray, List.getElem_cons_succ, List.getElem_cons_zero, List.setIfInBounds_toArray, List.set_cons_zero, List.set_cons_succ]); rfl)) ?_
    refine sched3 rfl rfl (fun K hK => ?_)
    go_simp
    refine (C3.out _).mono ?_
    rintro e w' ⟨rfl, hb⟩
    have hS := HM6.out _ _ hS hb
    refine hK S6 _ _ hS ?_
    clear hK K hb
    refine schedA (by ((try simp only [Act.put, List.getElem_toArray, List.getElem_cons_succ, List.getElem_cons_zero, List.setIfInBounds_toArray, List.set_cons_zero, List.set_cons_succ]); rfl)) ?_
    refine sched0' rfl rfl (fun W => run_eqB (by first | exact ev_tmp rfl | exact ev_const) (by first | exact ev_tmp rfl | exact ev_const) (by kernel_rfl) W) (by (simp only [Act.put, List.setIfInBounds_toArray, List.set_cons_zero, List.set_cons_succ]; rfl)) ?_
    refine sched0' rfl rfl (fun W => run_pickT (by first | exact ev_tmp rfl | exact ev_const) (by first | exact ev_tmp rfl | exact ev_const) W) (by (simp only [Act.put, List.setIfInBounds_toArray, List.set_cons_zero, List.set_cons_succ]; rfl)) ?_
    refine sched0' rfl rfl (fun W => run_mv (by first | exact ev_tmp rfl | exact ev_const) W) (by (simp only [Act.put, List.setIfInBounds_toArray, List.set_cons_zero, List.set_cons_succ]; rfl)) ?_
    refine sched1' rfl rfl (fun W hW => run_ld (by first | exact ev_tmp rfl | exact ev_const) (by (rw [← HS6.out] at hW; exact hW.1.1.1.1.1.1)) (by kernel_rfl) (by kernel_rfl)) (by (simp only [Act.put, List.setIfInBounds_toArray, List.set_cons_zero, List.set_cons_succ]; rfl)) ?_
    refine sched1' rfl rfl (fun W hW => run_ld (by first | exact ev_tmp rfl | exact ev_const) (by (rw [← HS6.out] at hW; exact hW.1.1.1.1.1.2)) (by kernel_rfl) (by kernel_rfl)) (by (simp only [Act.put, List.setIfInBounds_toArray, List.set_cons_zero, List.set_cons_succ]; rfl)) ?_
    refine sched3 rfl rfl (fun K hK => ?_)
    go_simp
    refine (C1.out _).mono ?_
    rintro e w' ⟨rfl, hb⟩
    have hS := HM6.out _ _ hS hb
    refine hK S6 _ _ hS ?_
    clear hK K hb
    refine schedA (by ((try simp only [Act.put, List.getElem_toArray, List.getElem_cons_succ, List.getElem_cons_zero, List.setIfInBounds_toArray, List.set_cons_zero, List.set_cons_succ]); rfl)) ?_
    refine sched0' rfl rfl (fun W => run_mv (by first | exact ev_tmp rfl | exact ev_const) W) (by (simp only [Act.put, List.setIfInBounds_toArray, List.set_cons_zero, List.set_cons_succ]; rfl)) ?_
    refine sched1n' rfl rfl (by (simp only [Act.put, List.setIfInBounds_toArray, List.set_cons_zero, List.set_cons_succ]; rfl)) ?_
    refine sched1n' rfl rfl (by (simp only [Act.put, List.setIfInBounds_toArray, List.set_cons_zero, List.set_cons_succ]; rfl)) ?_
    refine sched3n rfl rfl hS ?_
    refine schedA (by (simp only [Act.put, List.setIfInBounds_toArray, List.set_cons_zero, List.set_cons_succ]; rfl)) ?_
    refine sched0' rfl rfl (fun W => run_pickF (by first | exact ev_tmp rfl | exact ev_const) (by first | exact ev_tmp rfl | exact ev_const) W) (by (simp only [Act.put, List.setIfInBounds_toArray, List.set_cons_zero, List.set_cons_succ]; rfl)) ?_
    refine sched0' rfl rfl (fun W => run_not (by first | exact ev_tmp rfl | exact ev_const) W) (by (simp only [Act.put, List.setIfInBounds_toArray, List.set_cons_zero, List.set_cons_succ]; rfl)) ?_
    refine sched0' rfl rfl (fun W => run_pickT (by first | exact ev_tmp rfl | exact ev_const) (by first | exact ev_tmp rfl | exact ev_const) W) (by (simp only [Act.put, List.setIfInBounds_toArray, List.set_cons_zero, List.set_cons_succ]; rfl)) ?_
    refine sched0' rfl rfl (fun W => run_mv (by first | exact ev_tmp rfl | exact ev_const) W) (by (simp only [Act.put, List.setIfInBounds_toArray, List.set_cons_zero, List.set_cons_succ]; rfl)) ?_
    refine sched1' rfl rfl (fun W hW => run_ld (by first | exact ev_tmp rfl | exact ev_const) (by (rw [← HS6.out] at hW; exact hW.1.1.1.1.1.1)) (by kernel_rfl) (by kernel_rfl)) (by (simp only [Act.put, List.setIfInBounds_toArray, List.set_cons_zero, List.set_cons_succ]; rfl)) ?_
    refine sched1' rfl rfl (fun W hW => run_ld (by first | exact ev_tmp rfl | exact ev_const) (by (rw [← HS6.out] at hW; exact hW.1.1.1.1.1.2)) (by kernel_rfl) (by kernel_rfl)) (by (simp only [Act.put, List.setIfInBounds_toArray, List.set_cons_zero, List.set_cons_succ]; rfl)) ?_
    refine sched0' rfl rfl (fun W => run_eqA (by first | exact ev_tmp rfl | exact ev_const) (by first | exact ev_tmp rfl | exact ev_const) (by kernel_rfl) (fun W => hf1 W) W) (by (simp only [Act.put, List.setIfInBounds_toArray, List.set_cons_zero, List.set_cons_succ]; rfl)) ?_
    refine sched1' rfl rfl (fun W hW => run_ld (by first | exact ev_tmp rfl | exact ev_const) (by (rw [← HS6.out] at hW; exact hW.1.1.1.1.1.1)) (by kernel_rfl) (by kernel_rfl)) (by (simp only [Act.put, List.setIfInBounds_toArray, List.set_cons_zero, List.set_cons_succ]; rfl)) ?_
    refine sched1' rfl rfl (fun W hW => run_ld (by first | exact ev_tmp rfl | exact ev_const) (by (rw [← HS6.out] at hW; exact hW.1.1.1.1.1.2)) (by kernel_rfl) (by kernel_rfl)) (by (simp only [Act.put, List.setIfInBounds_toArray, List.set_cons_zero, List.set_cons_succ]; rfl)) ?_
    refine sched2 rfl rfl (fun K hK => ?_)
    go_simp
    refine (C1.out _).mono ?_
    rintro e w' ⟨rfl, hb⟩
    have hS := HM6.out _ _ hS hb
    refine hK _ _ hS ?_
    clear hK K hb
    refine schedA (by ((try simp only [Act.put, List.getElem_toArray, List.getElem_cons_succ, List.getElem_cons_zero, List.setIfInBounds_toArray, List.set_cons_zero, List.set_cons_succ]); rfl)) ?_
    refine sched0' rfl rfl (fun W => run_not (by first | exact ev_tmp rfl | exact ev_const) W) (by (simp only [Act.put, List.setIfInBounds_toArray, List.set_cons_zero, List.set_cons_succ]; rfl)) ?_
    refine sched0' rfl rfl (fun W => run_mv (by first | exact ev_tmp rfl | exact ev_const) W) (by (simp only [Act.put, List.setIfInBounds_toArray, List.set_cons_zero, List.set_cons_succ]; rfl)) ?_
    refine sched1' rfl rfl (fun W hW => run_ld (by first | exact ev_tmp rfl | exact ev_const) (by (rw [← HS6.out] at hW; exact hW.1.1.1.1.1.2)) (by kernel_rfl) (by kernel_rfl)) (by (simp only [Act.put, List.setIfInBounds_toArray, List.set_cons_zero, List.set_cons_succ]; rfl)) ?_
    refine sched1' rfl rfl (fun W hW => run_ld (by first | exact ev_tmp rfl | exact ev_const) (by (rw [← HS6.out] at hW; exact hW.1.1.1.1.1.1)) (by kernel_rfl) (by kernel_rfl)) (by (simp only [Act.put, List.setIfInBounds_toArray, List.set_cons_zero, List.set_cons_succ]; rfl)) ?_
    refine sched2 rfl rfl (fun K hK => ?_)
    go_simp
    refine (C2.out _).mono ?_
    rintro e w' ⟨rfl, hb⟩
    have hS := HM6.out _ _ hS hb
    refine hK _ _ hS ?_
    clear hK K hb
    refine schedA (by ((try simp only [Act.put, List.getElem_toArray, List.getElem_cons_succ, List.getElem_cons_zero, List.setIfInBounds_toArray, List.set_cons_zero, List.set_cons_succ]); rfl)) ?_
    refine sched0' rfl rfl (fun W => run_not (by first | exact ev_tmp rfl | exact ev_const) W) (by (simp only [Act.put, List.setIfInBounds_toArray, List.set_cons_zero, List.set_cons_succ]; rfl)) ?_
    refine sched0' rfl rfl (fun W => run_pickT (by first | exact ev_tmp rfl | exact ev_const) (by first | exact ev_tmp rfl | exact ev_const) W) (by (simp only [Act.put, List.setIfInBounds_toArray, List.set_cons_zero, List.set_cons_succ]; rfl)) ?_
    refine sched0' rfl rfl (fun W => run_eqB (by first | exact ev_tmp rfl | exact ev_const) (by first | exact ev_tmp rfl | exact ev_const) (by kernel_rfl) W) (by (simp only [Act.put, List.setIfInBounds_toArray, List.set_cons_zero, List.set_cons_succ]; rfl)) ?_
    refine sched0' rfl rfl (fun W => run_pickT (by first | exact ev_tmp rfl | exact ev_const) (by first | exact ev_tmp rfl | exact ev_const) W) (by (simp only [Act.put, List.setIfInBounds_toArray, List.set_cons_zero, List.set_cons_succ]; rfl)) ?_
    refine sched0' rfl rfl (fun W => run_as (by first | exact ev_tmp rfl | exact ev_const) W) (by (simp only [Act.put, List.setIfInBounds_toArray, List.set_cons_zero, List.set_cons_succ]; rfl)) ?_
    refine hK6 _ _ ?_
    have HBE : Hid (Below w.heap.size w w') := by rw [← HS6.out] at hS; exact hS.2
    clear hK6 hS HM6 HS6
    go_wp2_with fail
    go_ret
    exact ⟨rfl, HBE.out⟩
end Go.Proofs.YtamjbnfmpfgjcaaGreatDoor
