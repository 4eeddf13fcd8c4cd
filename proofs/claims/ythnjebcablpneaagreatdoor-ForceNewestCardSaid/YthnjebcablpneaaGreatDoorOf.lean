/- Contracts: a position as the document's. -/
import Derived.Test.YthnjebcablpneaaGreatDoorPos2
set_option maxRecDepth 100000
namespace Go.Proofs.YthnjebcablpneaaGreatDoor
open Go.RowKit Go.Ev
theorem tyArr : ElemTyN Tryz.prog 32 52 (.agg #[.int .u8 0, .int .u8 0, .int .u8 0, .int .u8 0, .int .u8 0, .int .u8 0, .int .u8 0, .int .u8 0]) 8 8 := ElemTyN.mk' Tryz.underlying32 (by kernel_rfl) rfl (by omega)
/-- The document's position, as far as its tips are laid. -/
structure OfAt (w : World) (A B C : Option Addr) (n c m d k e : Nat) (r0 r1 r2 r3 r4 : Int) (ts : List (List Int)) (j : Nat) (C' : Option Addr) (e' : Nat) (W : World) : Prop where
  box : W.heap[w.heap.size]? = some (.cells #[.slice A n c, .slice B m d, .slice C k e, .int .i64 r0, .int .i64 r1, .int .i64 r2, .int .i64 r3, .int .u64 r4] 29 (0, 0))
  res : W.heap[w.heap.size + 1]? = some (.cells #[.slice none 0 0, .slice none 0 0, .slice none 0 0, .int .i64 0, .int .i64 0, .int .i64 0, .int .i64 0, .int .u64 0] 35 (0, 0))
  out : W.heap[w.heap.size + 2]? = some (.cells #[.slice A n c, .slice B m d, .slice C' j e', .int .i64 r0, .int .i64 r1, .int .i64 r2, .int .i64 r3, .int .u64 r4] 35 (0, 0))
  own : W.ownsRow (w.heap.size + 3) 52 8 (.slice C' j e') j ((ts.take j).flatMap digL)
  nil_ : C' = none → e' = 0
  below : Below w.heap.size w W
theorem al3 (w : World) (a b c : Obj) : (((w.alloc a).alloc b).alloc c).heap[w.heap.size]? = some a ∧ (((w.alloc a).alloc b).alloc c).heap[w.heap.size + 1]? = some b ∧ (((w.alloc a).alloc b).alloc c).heap[w.heap.size + 2]? = some c ∧ (((w.alloc a).alloc b).alloc c).heap.size = w.heap.size + 3 ∧ Below w.heap.size w (((w.alloc a).alloc b).alloc c) := by
  have h0 := al_fst w a b
  have h1 := al_snd w a b
  have hz := al_size w a b
  have hb := al_below w a b
  generalize (w.alloc a).alloc b = V at h0 h1 hz hb ⊢
  have hbv : Below V.heap.size V (V.alloc c) := (Below.refl _ _).alloc (Nat.le_refl _) _
  have h2 := heap_alloc_new V c
  rw [hz] at h2
  have h3 : (V.alloc c).heap.size = V.heap.size + 1 := Array.size_push _
  exact ⟨blk_below' h0 hbv, blk_below' h1 hbv, h2, by omega, hb.trans (hbv.mono hb.size)⟩
theorem of17 (A B C : Option Addr) (n c m d k e : Nat) (r0 r1 r2 r3 r4 : Int) (ts : List (List Int)) (w : World) (h : Sln 8 digL w C k ts) (hd : ∀ d ∈ ts, Dig d) (hk : k ≤ 1000000) :
    Calls Tryz.prog 9 #[.agg #[.slice A n c, .slice B m d, .slice C k e, .int .i64 r0, .int .i64 r1, .int .i64 r2, .int .i64 r3, .int .u64 r4]] w fun en w' => ∃ C' e', en = .returned (.agg #[.slice A n c, .slice B m d, .slice C' k e', .int .i64 r0, .int .i64 r1, .int .i64 r2, .int .i64 r3, .int .u64 r4]) ∧ w'.ownsRow w.heap.size 52 8 (.slice C' k e') k (ts.flatMap digL) ∧ (C' = none → e' = 0) ∧ Below w.heap.size w w' := by
  have HS := Lib.hid h
  have HD := Lib.hid hd
  clear h hd
  go_enter Tryz.func9, Tryz.ntmps9
  go_wp2_with fail
  obtain ⟨z0, z1, z2, z3, z4⟩ := al3 w (.cells #[.slice A n c, .slice B m d, .slice C k e, .int .i64 r0, .int .i64 r1, .int .i64 r2, .int .i64 r3, .int .u64 r4] 29) (.cells #[.slice none 0 0, .slice none 0 0, .slice none 0 0, .int .i64 0, .int .i64 0, .int .i64 0, .int .i64 0, .int .u64 0] 35) (.cells #[.slice A n c, .slice B m d, .slice none 0 0, .int .i64 r0, .int .i64 r1, .int .i64 r2, .int .i64 r3, .int .u64 r4] 35)
  have HI : Hid (OfAt w A B C n c m d k e r0 r1 r2 r3 r4 ts 0 none 0 _) := ⟨z0, z1, z2, ⟨rfl, .inl ⟨rfl, rfl⟩⟩, fun _ => rfl, z4⟩
  have HZ : Hid (w.heap.size + 3 ≤ Array.size (World.heap _)) := Nat.le_of_eq z3.symm
  generalize ((w.alloc (.cells #[.slice A n c, .slice B m d, .slice C k e, .int .i64 r0, .int .i64 r1, .int .i64 r2, .int .i64 r3, .int .u64 r4] 29)).alloc (.cells #[.slice none 0 0, .slice none 0 0, .slice none 0 0, .int .i64 0, .int .i64 0, .int .i64 0, .int .i64 0, .int .u64 0] 35)).alloc (.cells #[.slice A n c, .slice B m d, .slice none 0 0, .int .i64 r0, .int .i64 r1, .int .i64 r2, .int .i64 r3, .int .u64 r4] 35) = W0 at HI HZ ⊢
  clear z0 z1 z2 z3 z4
  go_loopw [4] (fun s4 wr => ∃ (j : Nat) (C' : Option Addr) (e' : Nat), j ≤ k ∧ s4 = .int .i64 j ∧ Hid (OfAt w A B C n c m d k e r0 r1 r2 r3 r4 ts j C' e' wr) ∧ Hid (w.heap.size + 3 ≤ wr.heap.size)) (fun s4 _ => k - (intOf s4).toNat)
  case atStart => exact ⟨0, none, 0, Nat.zero_le _, rfl, HI.out, HZ.out⟩
  case round =>
    rename_i wr _
    obtain ⟨j, C', e', hj, rfl, HO, HZR⟩ := hrel
    have x2 := blkC HO.out.box 2
    by_cases hlt : j < k
    · go_wp2_with fail
      obtain ⟨b, off, v, rfl, hbw, hcv, hv⟩ := (HS.out.below HO.out.below).get hlt
      have hdv : Dig v := HD.out v (List.mem_of_getElem? hv.out)
      obtain ⟨d0, d1, d2, d3, d4, d5, d6, d7, rfl, -⟩ := dig_parts hdv
      have hw0 := HO.out.below.size
      have hS : Below wr.heap.size wr wr.drew := (Below.refl _ _).drew
      rename_i hK0
      refine wp_region_sched [(0, 0), (1, 1), (2, 0), (3, 1), (4, 0), (5, 0), (6, 1), (7, 2), (8, 3), (9, 0), (10, 3)] (fun W => Below wr.heap.size wr W) (by kernel_rfl) (by kernel_rfl) hS ?_
      change wpSched _ _ _ _ _ _ wr.drew
      have hzr := HZR.out
      refine sched0' rfl rfl (fun W => run_fa (o' := 2) (ev_tmp rfl) (by kernel_rfl) W) (by (simp only [Act.put, List.getElem_toArray, List.getElem_cons_succ, List.getElem_cons_zero, List.setIfInBounds_toArray, List.set_cons_zero, List.set_cons_succ]; rfl)) ?_
      refine sched1' rfl rfl (fun W hW => run_ld1 (ev_tmp rfl) ((hW.cell (p := ⟨w.heap.size + 2, 2, none⟩) (by show w.heap.size + 2 < _; omega)).trans (blkC HO.out.out 2)) (by kernel_rfl)) (by (simp only [Act.put, List.getElem_toArray, List.getElem_cons_succ, List.getElem_cons_zero, List.setIfInBounds_toArray, List.set_cons_zero, List.set_cons_succ]; rfl)) ?_
      refine sched0' rfl rfl (fun W => run_fa (o' := 2) (ev_tmp rfl) (by kernel_rfl) W) (by (simp only [Act.put, List.getElem_toArray, List.getElem_cons_succ, List.getElem_cons_zero, List.setIfInBounds_toArray, List.set_cons_zero, List.set_cons_succ]; rfl)) ?_
      refine sched1' rfl rfl (fun W hW => run_ld1 (ev_tmp rfl) ((hW.cell (p := ⟨w.heap.size, 2, none⟩) (by show w.heap.size < _; omega)).trans (blkC HO.out.box 2)) (by kernel_rfl)) (by (simp only [Act.put, List.getElem_toArray, List.getElem_cons_succ, List.getElem_cons_zero, List.setIfInBounds_toArray, List.set_cons_zero, List.set_cons_succ]; rfl)) ?_
      refine sched0' rfl rfl (fun W => run_mv (ev_tmp rfl) W) (by (simp only [Act.put, List.getElem_toArray, List.getElem_cons_succ, List.getElem_cons_zero, List.setIfInBounds_toArray, List.set_cons_zero, List.set_cons_succ]; rfl)) ?_
      refine sched0' rfl rfl (fun W => by (go_simp; try with_reducible rfl)) (by (simp only [Act.put, List.getElem_toArray, List.getElem_cons_succ, List.getElem_cons_zero, List.setIfInBounds_toArray, List.set_cons_zero, List.set_cons_succ]; rfl)) ?_
      refine sched1' rfl rfl (fun W hW => by (
        have g0 := (hW.cell (p := ⟨b, off + j * 8, none⟩) hbw).trans (hcv 0 _ rfl)
        have g1 := (hW.cell (p := ⟨b, off + j * 8 + 1, none⟩) hbw).trans (hcv 1 _ rfl)
        have g2 := (hW.cell (p := ⟨b, off + j * 8 + 2, none⟩) hbw).trans (hcv 2 _ rfl)
        have g3 := (hW.cell (p := ⟨b, off + j * 8 + 3, none⟩) hbw).trans (hcv 3 _ rfl)
        have g4 := (hW.cell (p := ⟨b, off + j * 8 + 4, none⟩) hbw).trans (hcv 4 _ rfl)
        have g5 := (hW.cell (p := ⟨b, off + j * 8 + 5, none⟩) hbw).trans (hcv 5 _ rfl)
        have g6 := (hW.cell (p := ⟨b, off + j * 8 + 6, none⟩) hbw).trans (hcv 6 _ rfl)
        have g7 := (hW.cell (p := ⟨b, off + j * 8 + 7, none⟩) hbw).trans (hcv 7 _ rfl)
        clear hW
        go_simp
        try with_reducible rfl)) (by (simp only [Act.put, List.getElem_toArray, List.getElem_cons_succ, List.getElem_cons_zero, List.setIfInBounds_toArray, List.set_cons_zero, List.set_cons_succ]; rfl)) ?_
      refine sched2 rfl rfl (fun K hK => ?_)
      go_simp
      have hA : Below wr.heap.size wr (wr.drew.alloc (.cells #[.int .u8 d0, .int .u8 d1, .int .u8 d2, .int .u8 d3, .int .u8 d4, .int .u8 d5, .int .u8 d6, .int .u8 d7] 52)) := hS.alloc (Nat.le_refl _) _
      refine hK _ _ hA ?_
      clear hK K
      refine schedA (by ((try simp only [Act.put, List.getElem_toArray, List.getElem_cons_succ, List.getElem_cons_zero, List.setIfInBounds_toArray, List.set_cons_zero, List.set_cons_succ]); rfl)) ?_
      have hlit := World.ownsRow_lit (base := wr.drew.heap.size) (e := 52) (size := 8) wr.drew #[.int .u8 d0, .int .u8 d1, .int .u8 d2, .int .u8 d3, .int .u8 d4, .int .u8 d5, .int .u8 d6, .int .u8 d7] 1 (Nat.le_refl _) (by unfold maxLen; omega) rfl
      have HNEW : Sln 8 digL (wr.drew.alloc (.cells #[.int .u8 d0, .int .u8 d1, .int .u8 d2, .int .u8 d3, .int .u8 d4, .int .u8 d5, .int .u8 d6, .int .u8 d7] 52)) (some ⟨wr.drew.heap.size, 0, none⟩) 1 [[d0, d1, d2, d3, d4, d5, d6, d7]] := Sln.of_row (xs := [[d0, d1, d2, d3, d4, d5, d6, d7]]) hlit rfl (fun x hx => by simp only [List.mem_cons, List.not_mem_nil, or_false] at hx; subst hx; rfl) (by omega)
      have HOWN := own_belowN HO.out.own hA
      refine sched3 rfl rfl (fun K hK => ?_)
      refine wp_of_list (ops := #[]) rfl ?_
      refine wpList_appN tyArr rfl _ _ rfl (w.heap.size + 3) _ j (ts.take j) rfl HOWN ⟨wr.drew.heap.size, 0, none⟩ 1 1 [[d0, d1, d2, d3, d4, d5, d6, d7]] (fun _ _ => digL_one) rfl HNEW (by unfold maxLen; omega) (by omega) (Nat.le_trans hzr hA.size) ?_
      intro A2 c2 w2 hown2 hgrow2 hat2
      show K _ _
      refine hK (fun _ => True) _ _ trivial ?_
      clear hK K
      refine schedA (by ((try simp only [Act.put, List.getElem_toArray, List.getElem_cons_succ, List.getElem_cons_zero, List.setIfInBounds_toArray, List.set_cons_zero, List.set_cons_succ]); rfl)) ?_
      have hb2 : Below (w.heap.size + 3) wr w2 := (hA.mono hzr).grown hgrow2 (Nat.le_trans hzr hA.size) (fun k hk => (HO.out.own.lt k hk).1)
      have hout := (hb2.block (w.heap.size + 2) (by omega)).trans HO.out.out
      have u2 := blkC hout 2
      have v2 := blkF hout 2
      refine sched0' rfl rfl (fun W => run_fa (o' := 2) (ev_tmp rfl) (by kernel_rfl) W) (by (simp only [Act.put, List.getElem_toArray, List.getElem_cons_succ, List.getElem_cons_zero, List.setIfInBounds_toArray, List.set_cons_zero, List.set_cons_succ]; rfl)) ?_
      refine sched3 rfl rfl (fun K hK => ?_)
      go_simp
      refine hK (fun _ => True) _ _ trivial ?_
      clear hK K u2 v2
      refine schedA (by ((try simp only [Act.put, List.getElem_toArray, List.getElem_cons_succ, List.getElem_cons_zero, List.setIfInBounds_toArray, List.set_cons_zero, List.set_cons_succ]); rfl)) ?_
      refine hK0 _ _ ?_
      clear hK0
      have HN : Hid (OfAt w A B (some ⟨b, off, none⟩) n c m d k e r0 r1 r2 r3 r4 ts (j + 1) A2 c2 (w2.setCell ⟨w.heap.size + 2, 2, none⟩ (.slice A2 (j + 1) c2))) := by
        refine ⟨?_, ?_, ?_, ?_, own_nil hown2, ((HO.out.below.trans (hb2.mono (by omega))).setCell (by show w.heap.size ≤ w.heap.size + 2; omega) _)⟩
        · rw [heap_setCell_other _ _ _ _ (by show w.heap.size ≠ w.heap.size + 2; omega)]
          exact (hb2.block w.heap.size (by omega)).trans HO.out.box
        · rw [heap_setCell_other _ _ _ _ (by show w.heap.size + 1 ≠ w.heap.size + 2; omega)]
          exact (hb2.block (w.heap.size + 1) (by omega)).trans HO.out.res
        · exact heap_setCell_same _ _ 2 _ _ _ hout
        · rw [take_snoc hv.out]
          exact ownsRow_setCell_below hown2 (by show w.heap.size + 2 < w.heap.size + 3; omega) _
      have HZ2 : Hid (w.heap.size + 3 ≤ (w2.setCell ⟨w.heap.size + 2, 2, none⟩ (.slice A2 (j + 1) c2)).heap.size) := by
        have := hb2.size
        show _ ≤ (w2.setCell _ _).heap.size
        simp only [World.setCell, Array.size_modify]
        omega
      clear hA HNEW HOWN hlit hown2 hgrow2 hat2 hb2 hout hS hw0 hzr hcv
      go_wp2_with fail
      go_roundw
      case rel => exact ⟨j + 1, A2, c2, by omega, by go_num, HN.out, HZ2.out⟩
      case measure => simp [intOf]; omega
    · obtain rfl : j = k := by omega
      have o0 := blkC HO.out.out 0
      have o1 := blkC HO.out.out 1
      have o2 := blkC HO.out.out 2
      have o3 := blkC HO.out.out 3
      have o4 := blkC HO.out.out 4
      have o5 := blkC HO.out.out 5
      have o6 := blkC HO.out.out 6
      have o7 := blkC HO.out.out 7
      have k0 := blkC HO.out.res 0
      have f0 := blkF HO.out.res 0
      have k1 := blkC HO.out.res 1
      have f1 := blkF HO.out.res 1
      have k2 := blkC HO.out.res 2
      have f2 := blkF HO.out.res 2
      have k3 := blkC HO.out.res 3
      have f3 := blkF HO.out.res 3
      have k4 := blkC HO.out.res 4
      have f4 := blkF HO.out.res 4
      have k5 := blkC HO.out.res 5
      have f5 := blkF HO.out.res 5
      have k6 := blkC HO.out.res 6
      have f6 := blkF HO.out.res 6
      have k7 := blkC HO.out.res 7
      have f7 := blkF HO.out.res 7
      have hg : w.heap.size ≤ w.heap.size + 1 := Nat.le_succ _
      go_wp2_with fail
      refine bodyPost_ret (v := .agg #[.slice A n c, .slice B m d, .slice C' j e', .int .i64 r0, .int .i64 r1, .int .i64 r2, .int .i64 r3, .int .u64 r4]) (by simp [results, Tryz.results9, go_sem, k0, f0, k1, f1, k2, f2, k3, f3, k4, f4, k5, f5, k6, f6, k7, f7]) rfl ⟨C', e', rfl, ?_, HO.out.nil_, below8 HO.out.below hg⟩
      have := HO.out.own
      rw [List.take_of_length_le (by rw [HS.out.len]; omega)] at this
      exact own_monoN (own8 this (by omega)) (by omega)
end Go.Proofs.YthnjebcablpneaaGreatDoor
