/- Contracts: whose signature lacks: Missing. -/
import Derived.Test.YtpnegfocmaecbaaNote7
namespace Go.Proofs.Ytpnegfocmaecbaa
open Go.RowKit
def digL (d : List Int) : List Value := d.map (Value.int .u8)
/-- Does the signature of seat i lack? -/
def lackB (L : List Ent) (m : List Int) (keys : List (List Int)) (sigs : List Pc) (fr : List Bool) (i : Nat) : Bool :=
  !(fr[i]?.getD false) && !(verB L (keys[i]?.getD [], m) ((sigs[i]?.map Pc.bs).getD []))
def lackL (L : List Ent) (m : List Int) (keys : List (List Int)) (sigs : List Pc) (fr : List Bool) (k : Nat) : List Int := ((List.range k).filter (lackB L m keys sigs fr)).map fun (i : Nat) => (i : Int)
theorem lackL_len (L : List Ent) (m : List Int) (keys : List (List Int)) (sigs : List Pc) (fr : List Bool) (k : Nat) : (lackL L m keys sigs fr k).length ≤ k := by
  unfold lackL
  rw [List.length_map]
  exact Nat.le_trans (List.length_filter_le _ _) (by simp)
theorem lackL_succ (L : List Ent) (m : List Int) (keys : List (List Int)) (sigs : List Pc) (fr : List Bool) (k : Nat) : lackL L m keys sigs fr (k + 1) = lackL L m keys sigs fr k ++ if lackB L m keys sigs fr k = true then [(k : Int)] else [] := by
  unfold lackL
  rw [List.range_succ, List.filter_append, List.map_append]
  congr 1
  by_cases h : lackB L m keys sigs fr k = true
  · rw [if_pos h]; simp [List.filter_cons, h]
  · rw [if_neg h]; simp [List.filter_cons, h]
set_option maxRecDepth 100000 in
set_option maxHeartbeats 1000000 in
theorem missing39 (gb B mb c n kc sc fc : Nat) (A KA SA FA : Option Addr) (D : DataW Unit) (L : List Ent) (m : List Int) (keys : List (List Int)) (sigs : List Pc) (fr : List Bool) (w : World) (hm : Dig m) (hb : Book w gb B L A c mb D)
    (hk : Sln 8 digL w KA n keys) (hkd : ∀ k ∈ keys, Dig k) (hs : Sl Pc.val w SA n sigs) (hso : ∀ p ∈ sigs, SigOk w p) (hf : Sl Value.bool w FA n fr) (hn : n ≤ 100) :
    Calls Try.prog 39 #[.iface 33 (.pointer (some ⟨gb, 0, none⟩)), .slice KA n kc, dv m, .slice SA n sc, .slice FA n fc] w fun e w' => ∃ A' c', e = .returned (.slice A' (lackL L m keys sigs fr n).length c') ∧ Below w.heap.size w w' := by
  obtain ⟨m0, m1, m2, m3, m4, m5, m6, m7, rfl, -⟩ := dig_parts hm
  have hb0 : Below w.heap.size w (w.alloc (.cells #[.int .u8 m0, .int .u8 m1, .int .u8 m2, .int .u8 m3, .int .u8 m4, .int .u8 m5, .int .u8 m6, .int .u8 m7] 30)) := (Below.refl _ _).alloc (Nat.le_refl _) _
  have hg0 : (w.alloc (.cells #[.int .u8 m0, .int .u8 m1, .int .u8 m2, .int .u8 m3, .int .u8 m4, .int .u8 m5, .int .u8 m6, .int .u8 m7] 30)).heap[w.heap.size]? = some (.cells #[.int .u8 m0, .int .u8 m1, .int .u8 m2, .int .u8 m3, .int .u8 m4, .int .u8 m5, .int .u8 m6, .int .u8 m7] 30 (0, 0)) := heap_alloc_new w _
  have hz0 : (w.alloc (.cells #[.int .u8 m0, .int .u8 m1, .int .u8 m2, .int .u8 m3, .int .u8 m4, .int .u8 m5, .int .u8 m6, .int .u8 m7] 30)).heap.size = w.heap.size + 1 := by simp
  have HB0 := Lib.hid hb0
  have HG0 := Lib.hid hg0
  have HZ0 := Lib.hid hz0
  have HM := Lib.hid hm
  have HBK := Lib.hid (hb.below hb0)
  have HKS := Lib.hid (hk.below hb0)
  have HKD := Lib.hid hkd
  have HSG := Lib.hid (hs.below hb0)
  have HSO : Hid (∀ p ∈ sigs, SigOk (w.alloc (.cells #[.int .u8 m0, .int .u8 m1, .int .u8 m2, .int .u8 m3, .int .u8 m4, .int .u8 m5, .int .u8 m6, .int .u8 m7] 30)) p) := fun p hp => (hso p hp).below hb0
  have HFR := Lib.hid (hf.below hb0)
  clear hb0 hg0 hz0 hm hb hk hkd hs hso hf
  show Calls Try.prog _ #[_, _, .agg #[.int .u8 m0, .int .u8 m1, .int .u8 m2, .int .u8 m3, .int .u8 m4, .int .u8 m5, .int .u8 m6, .int .u8 m7], _, _] w _
  have na := nilAheadV
  have nm := methodV
  have ne : ∀ (a : Addr) (w : World), (binOp .eql 65 (.iface 33 (.pointer (some a))) .nilIface).run Try.prog w = .ok (.bool false) w := fun a w => by kernel_rfl
  go_enter Try.func39, Try.ntmps39
  go_wp2_with fail
  generalize w.alloc (.cells #[.int .u8 m0, .int .u8 m1, .int .u8 m2, .int .u8 m3, .int .u8 m4, .int .u8 m5, .int .u8 m6, .int .u8 m7] 30) = W0 at HB0 HG0 HZ0 HBK HKS HSG HSO HFR ⊢
  go_loopw [11, 12, 13, 16] (fun s11 _ _ s16 wr => ∃ (k : Nat) (A1 : Option Addr) (c1 l1 : Nat), k ≤ n ∧ s16 = .int .i64 k ∧ s11 = .slice A1 l1 c1 ∧ l1 ≤ k ∧ Hid (wr.ownsRow (w.heap.size + 1) 3 1 (.slice A1 l1 c1) l1 ((lackL L [m0, m1, m2, m3, m4, m5, m6, m7] keys sigs fr k).map (Value.int .i64))) ∧ Hid (Below (w.heap.size + 1) W0 wr)) (fun _ _ _ s16 _ => n - (intOf s16).toNat)
  case atStart => exact ⟨0, none, 0, 0, Nat.zero_le _, rfl, rfl, Nat.le_refl _, World.ownsRow_nil .., Below.refl _ _⟩
  case round =>
    obtain ⟨k, A1, c1, l1, hkn, rfl, rfl, hl1, HO1, HB1⟩ := hrel
    by_cases hlt : k < n
    · have hbw : Below W0.heap.size W0 wr := by rw [HZ0.out]; exact HB1.out
      obtain ⟨b, off, key, hKA, hbk, hkc, hkey⟩ := (HKS.out.below hbw).get hlt
      have hkd := HKD.out key (List.mem_of_getElem? hkey.out)
      obtain ⟨k0, k1, k2, k3, k4, k5, k6, k7, rfl, -⟩ := dig_parts hkd
      have q0 : wr.cell? ⟨b, off + k * 8, none⟩ = some (.int .u8 k0) := hkc 0 _ rfl
      have q1 : wr.cell? ⟨b, off + k * 8 + 1, none⟩ = some (.int .u8 k1) := hkc 1 _ rfl
      have q2 : wr.cell? ⟨b, off + k * 8 + 2, none⟩ = some (.int .u8 k2) := hkc 2 _ rfl
      have q3 : wr.cell? ⟨b, off + k * 8 + 3, none⟩ = some (.int .u8 k3) := hkc 3 _ rfl
      have q4 : wr.cell? ⟨b, off + k * 8 + 4, none⟩ = some (.int .u8 k4) := hkc 4 _ rfl
      have q5 : wr.cell? ⟨b, off + k * 8 + 5, none⟩ = some (.int .u8 k5) := hkc 5 _ rfl
      have q6 : wr.cell? ⟨b, off + k * 8 + 6, none⟩ = some (.int .u8 k6) := hkc 6 _ rfl
      have q7 : wr.cell? ⟨b, off + k * 8 + 7, none⟩ = some (.int .u8 k7) := hkc 7 _ rfl
      obtain ⟨fb, fo, fv, hFA, hfb, qf, hfv⟩ := (HFR.out.below hbw).get hlt
      obtain ⟨sb, so, p, hSA, hsb, qs, hpv⟩ := (HSG.out.below hbw).get hlt
      obtain ⟨pA, pn, pc, pb⟩ := p
      have HP : Hid (SigOk wr ⟨pA, pn, pc, pb⟩) := (HSO.out _ (List.mem_of_getElem? hpv.out)).below hbw
      have HBW := Lib.hid hbw
      have HKDD := Lib.hid hkd
      have hni : (n : Int) ≤ 100 := by omega
      subst hKA hFA hSA
      clear hkc hbw hkd
      cases fv
      · have hb1 : Below wr.heap.size wr (wr.alloc (.cells #[.int .u8 k0, .int .u8 k1, .int .u8 k2, .int .u8 k3, .int .u8 k4, .int .u8 k5, .int .u8 k6, .int .u8 k7] 30)) := (Below.refl _ _).alloc (Nat.le_refl _) _
        have HB2 : Hid (Below (w.heap.size + 1) W0 (wr.alloc (.cells #[.int .u8 k0, .int .u8 k1, .int .u8 k2, .int .u8 k3, .int .u8 k4, .int .u8 k5, .int .u8 k6, .int .u8 k7] 30))) := HB1.out.alloc (by have := HBW.out.size; rw [HZ0.out] at this; exact this) _
        have HG1 : Hid ((wr.alloc (.cells #[.int .u8 k0, .int .u8 k1, .int .u8 k2, .int .u8 k3, .int .u8 k4, .int .u8 k5, .int .u8 k6, .int .u8 k7] 30)).heap[wr.heap.size]? = some (.cells #[.int .u8 k0, .int .u8 k1, .int .u8 k2, .int .u8 k3, .int .u8 k4, .int .u8 k5, .int .u8 k6, .int .u8 k7] 30 (0, 0))) := heap_alloc_new wr _
        have HZ1 : Hid ((wr.alloc (.cells #[.int .u8 k0, .int .u8 k1, .int .u8 k2, .int .u8 k3, .int .u8 k4, .int .u8 k5, .int .u8 k6, .int .u8 k7] 30)).heap.size = wr.heap.size + 1) := by show _ = _; simp
        have HP1 := Lib.hid (HP.out.below hb1)
        have HO2 := Lib.hid (own_below HO1.out hb1)
        have HQS : Hid ((wr.alloc (.cells #[.int .u8 k0, .int .u8 k1, .int .u8 k2, .int .u8 k3, .int .u8 k4, .int .u8 k5, .int .u8 k6, .int .u8 k7] 30)).cell? ⟨sb, so + k, none⟩ = some (.slice pA pn pc)) := (hb1.cell (p := ⟨sb, so + k, none⟩) hsb).trans qs
        have hsb1 : sb < wr.heap.size + 1 := by omega
        have HX : Hid (w.heap.size + 1 ≤ wr.heap.size) := by have := HBW.out.size; rw [HZ0.out] at this; exact this
        go_wp2_with fail
        clear qs q0 q1 q2 q3 q4 q5 q6 q7 qf hb1 hsb hbk hfb HP
        generalize wr.alloc (.cells #[.int .u8 k0, .int .u8 k1, .int .u8 k2, .int .u8 k3, .int .u8 k4, .int .u8 k5, .int .u8 k6, .int .u8 k7] 30) = W1 at HB2 HG1 HZ1 HP1 HO2 HQS ⊢
        generalize wr.heap.size = x0 at HG1 HZ1 HX hsb1 ⊢
        have HT : Hid (∀ W, Below (x0 + 1) W1 W → W.cell? ⟨x0, 0, none⟩ = some (.int .u8 k0) ∧ W.cell? ⟨x0, 1, none⟩ = some (.int .u8 k1) ∧ W.cell? ⟨x0, 2, none⟩ = some (.int .u8 k2) ∧ W.cell? ⟨x0, 3, none⟩ = some (.int .u8 k3) ∧ W.cell? ⟨x0, 4, none⟩ = some (.int .u8 k4) ∧ W.cell? ⟨x0, 5, none⟩ = some (.int .u8 k5) ∧ W.cell? ⟨x0, 6, none⟩ = some (.int .u8 k6) ∧ W.cell? ⟨x0, 7, none⟩ = some (.int .u8 k7) ∧ W.cell? ⟨w.heap.size, 0, none⟩ = some (.int .u8 m0) ∧ W.cell? ⟨w.heap.size, 1, none⟩ = some (.int .u8 m1) ∧ W.cell? ⟨w.heap.size, 2, none⟩ = some (.int .u8 m2) ∧ W.cell? ⟨w.heap.size, 3, none⟩ = some (.int .u8 m3) ∧ W.cell? ⟨w.heap.size, 4, none⟩ = some (.int .u8 m4) ∧ W.cell? ⟨w.heap.size, 5, none⟩ = some (.int .u8 m5) ∧ W.cell? ⟨w.heap.size, 6, none⟩ = some (.int .u8 m6) ∧ W.cell? ⟨w.heap.size, 7, none⟩ = some (.int .u8 m7) ∧ W.cell? ⟨sb, so + k, none⟩ = some (.slice pA pn pc)) := fun W hW => by
          have g1 : W.heap[x0]? = _ := (hW.block _ (by omega)).trans HG1.out
          have g0 : W.heap[w.heap.size]? = some (.cells #[.int .u8 m0, .int .u8 m1, .int .u8 m2, .int .u8 m3, .int .u8 m4, .int .u8 m5, .int .u8 m6, .int .u8 m7] 30 (0, 0)) := (hW.block _ (by have := HX.out; omega)).trans ((HB2.out.block _ (by omega)).trans HG0.out)
          exact ⟨blk_cell g1 0, blk_cell g1 1, blk_cell g1 2, blk_cell g1 3, blk_cell g1 4, blk_cell g1 5, blk_cell g1 6, blk_cell g1 7, blk_cell g0 0, blk_cell g0 1, blk_cell g0 2, blk_cell g0 3, blk_cell g0 4, blk_cell g0 5, blk_cell g0 6, blk_cell g0 7, (hW.cell (p := ⟨sb, so + k, none⟩) hsb1).trans HQS.out⟩
        have HBL : Hid (∀ W, Below (x0 + 1) W1 W → Below W0.heap.size W0 W) := fun W hW => by rw [HZ0.out]; exact HB2.out.trans (hW.mono (by have := HX.out; omega))
        have hs0 := HT.out W1 (Below.refl _ _)
        have hgi : (decide ((n : Int) ≤ (k : Int))) = false := by simp; omega
        have hgn : (decide (n ≤ k)) = false := by simp; omega
        go_region_held3 (fun W => W.cell? ⟨x0, 0, none⟩ = some (.int .u8 k0) ∧ W.cell? ⟨x0, 1, none⟩ = some (.int .u8 k1) ∧ W.cell? ⟨x0, 2, none⟩ = some (.int .u8 k2) ∧ W.cell? ⟨x0, 3, none⟩ = some (.int .u8 k3) ∧ W.cell? ⟨x0, 4, none⟩ = some (.int .u8 k4) ∧ W.cell? ⟨x0, 5, none⟩ = some (.int .u8 k5) ∧ W.cell? ⟨x0, 6, none⟩ = some (.int .u8 k6) ∧ W.cell? ⟨x0, 7, none⟩ = some (.int .u8 k7) ∧ W.cell? ⟨w.heap.size, 0, none⟩ = some (.int .u8 m0) ∧ W.cell? ⟨w.heap.size, 1, none⟩ = some (.int .u8 m1) ∧ W.cell? ⟨w.heap.size, 2, none⟩ = some (.int .u8 m2) ∧ W.cell? ⟨w.heap.size, 3, none⟩ = some (.int .u8 m3) ∧ W.cell? ⟨w.heap.size, 4, none⟩ = some (.int .u8 m4) ∧ W.cell? ⟨w.heap.size, 5, none⟩ = some (.int .u8 m5) ∧ W.cell? ⟨w.heap.size, 6, none⟩ = some (.int .u8 m6) ∧ W.cell? ⟨w.heap.size, 7, none⟩ = some (.int .u8 m7) ∧ W.cell? ⟨sb, so + k, none⟩ = some (.slice pA pn pc)) (first | exact hs0 | exact HT.out _ hq1 | exact HT.out _ hq2) (first | (go_at_call 47; refine (cloneAny ⟨pA, pn, pc, pb⟩ W1.drew ⟨⟨HP1.out.ok.1.drew, HP1.out.ok.2⟩, HP1.out.two⟩).mono ?_; rintro e w1 ⟨A2, c2, rfl, hp2, hb2⟩; have hq1 : Below (x0 + 1) W1 w1 := (below_of_drew hb2).mono (Nat.le_of_eq HZ1.out.symm)) | (go_at_call 68; refine (verifyAny gb B mb c A D L [k0, k1, k2, k3, k4, k5, k6, k7] [m0, m1, m2, m3, m4, m5, m6, m7] ⟨A2, pn, c2, pb⟩ w1 HKDD.out HM.out (HBK.out.below (HBL.out _ hq1)) hp2).mono ?_; rintro e w2 ⟨rfl, hb3⟩; have hq2 : Below (x0 + 1) W1 w2 := below_trans hq1 hb3 (by rw [← HZ1.out]; exact hq1.size)))
        all_goals (
          have HO3 : Hid (w2.ownsRow (w.heap.size + 1) 3 1 (.slice A1 l1 c1) l1 ((lackL L [m0, m1, m2, m3, m4, m5, m6, m7] keys sigs fr k).map (Value.int .i64))) := own_below HO2.out (by rw [HZ1.out]; exact hq2)
          have HB3 : Hid (Below (w.heap.size + 1) W0 w2) := HB2.out.trans (hq2.mono (by have := HX.out; omega))
          have hz3 : w.heap.size + 1 ≤ w2.heap.size := by have := HB3.out.size; rw [HZ0.out] at this; exact this
          have HLB : Hid (lackB L [m0, m1, m2, m3, m4, m5, m6, m7] keys sigs fr k = !(verB L ([k0, k1, k2, k3, k4, k5, k6, k7], [m0, m1, m2, m3, m4, m5, m6, m7]) pb)) := by show _ = _; simp [lackB, hfv.out, hkey.out, hpv.out]
          clear hq1 hq2 hs0 hb3 hb2 hp2 hgi hgn
          generalize verB L ([k0, k1, k2, k3, k4, k5, k6, k7], [m0, m1, m2, m3, m4, m5, m6, m7]) pb = vb at HLB ⊢
          cases vb
          · go_wp2_with (at_builtin; refine wpList_app1 tyInts rfl _ _ rfl (oneInt .i64) (w.heap.size + 1) (.slice A1 l1 c1) l1 (lackL L [m0, m1, m2, m3, m4, m5, m6, m7] keys sigs fr k) (k : Int) _ rfl HO3.out rfl (by unfold maxLen; omega) (by omega) hz3 ?_; intro A4 c4 w4 hown4 hgrow4 hat4)
            go_roundw
            case rel => exact ⟨k + 1, A4, c4, l1 + 1, by omega, by go_num, rfl, by omega, (by show World.ownsRow _ _ _ _ _ _ _; rw [lackL_succ, HLB.out]; simpa using hown4), (HB3.out.alloc hz3 _).grown hgrow4 (by simp; omega) (fun q hq => (HO3.out.lt q hq).1)⟩
            case measure => simp [intOf]; omega
          · go_wp2_with fail
            go_roundw
            case rel => exact ⟨k + 1, A1, c1, l1, by omega, by go_num, rfl, by omega, (by show World.ownsRow _ _ _ _ _ _ _; rw [lackL_succ, HLB.out]; simpa using HO3.out), HB3.out⟩
            case measure => simp [intOf]; omega)
      · have HLK : Hid (lackB L [m0, m1, m2, m3, m4, m5, m6, m7] keys sigs fr k = false) := by show _ = _; simp [lackB, hfv.out]
        go_wp2_with fail
        go_roundw
        case rel => exact ⟨k + 1, A1, c1, l1, by omega, by go_num, rfl, by omega, (by show World.ownsRow _ _ _ _ _ _ _; rw [lackL_succ, HLK.out]; simpa using HO1.out.alloc _), HB1.out.alloc (by have := HBW.out.size; rw [HZ0.out] at this; exact this) _⟩
        case measure => simp [intOf]; omega
    · go_wp2_with fail
      go_ret
      obtain rfl : k = n := by omega
      refine ⟨A1, c1, ?_, HB0.out.trans (HB1.out.mono (by omega))⟩
      have := HO1.out.1
      simp only [List.length_map, Nat.mul_one] at this
      rw [this]
      rfl
end Go.Proofs.Ytpnegfocmaecbaa
