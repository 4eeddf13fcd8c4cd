/- Contract: vote. -/
import Derived.Test.YtpnegfocmaecbaaVote2
namespace Go.Proofs.Ytpnegfocmaecbaa
open Go.RowKit
theorem sig_made {sg ot : List Bool} {pd od : List Int} {k g : Nat} {e : Ent} {w : World} (hv : voteE sg ot pd od k = some e) (hk : k ≤ 100) (hg : w.heap[g]? = some (.cells #[.int .u8 (((putE (entsTo sg ot pd od k) e).idxOf e : Int) % 256), .int .u8 (((putE (entsTo sg ot pd od k) e).idxOf e : Int) / 256)] 5 (0, 0))) : SigIn w ⟨some ⟨g, 0, none⟩, 2, 2, sigB sg ot pd od k⟩ := by
  have hl := entsTo_len (sg := sg) (ot := ot) (pd := pd) (od := od) k
  rw [entsTo_putE hv, (entsTo_idx (Nat.lt_succ_self k) hv).2] at hg
  refine .inr ⟨g, _, _, ?_, hg, by omega, by omega⟩
  rw [sigB, hv, if_pos (by rfl)]
/-- What holds at the head of round k. -/
def VR (w W0 : World) (sg ot : List Bool) (pd od : List Int) (gb mb : Nat) (k : Nat) (s12 s13 s14 : Value) (wr : World) : Prop :=
  ∃ (A : Option Addr) (c : Nat) (D : DataW Unit) (KA SA : Option Addr) (kc sc : Nat) (sigs : List Pc), s14 = .int .i64 k ∧ s12 = .slice KA k kc ∧ s13 = .slice SA k sc ∧
    Book wr gb (w.heap.size + 3) (entsTo sg ot pd od k) A c mb D ∧ wr.ownsRow (w.heap.size + 3) 30 8 (.slice KA k kc) k (((List.range k).map keyD).flatMap digL) ∧ wr.ownsRow (w.heap.size + 3) 55 1 (.slice SA k sc) k (sigs.map Pc.val) ∧
    (∀ p ∈ sigs, SigIn wr p) ∧ sigs.map Pc.bs = (List.range k).map (sigB sg ot pd od) ∧ Below (w.heap.size + 3) W0 wr
set_option maxRecDepth 100000 in
set_option maxHeartbeats 1000000 in
theorem vote6 (ds es : List Int) (PA OA S1 S2 S3 : Option Addr) (pm pc om oc n n1 c1 n2 c2 n3 c3 : Nat) (pays others : List Int) (sg ot gn : List Bool) (w : World) (hd : Dig ds) (he : Dig es)
    (hp : Sl (Value.int .i64) w PA pm pays) (hpf : Fits pays) (hpm : pm ≤ 100) (ho : Sl (Value.int .i64) w OA om others) (hof : Fits others) (hom : om ≤ 100) (h1 : Sl Value.bool w S1 n1 sg) (h2 : Sl Value.bool w S2 n2 ot) (hn : n ≤ 10) :
    Calls Try.prog 6 #[pv ds PA pm pc, pv es OA om oc, .int .i64 n, .agg #[.slice S1 n1 c1, .slice S2 n2 c2, .slice S3 n3 c3]] w fun e w' => ∃ W0 gb mb s12 s13, e = .returned (.tuple #[.pointer (some ⟨gb, 0, none⟩), s12, s13]) ∧ Below w.heap.size w W0 ∧ VR w W0 sg ot (payD ds pays) (payD es others) gb mb n s12 s13 (.int .i64 n) w' := by
  have hd' := hd
  have he' := he
  obtain ⟨d0, d1, d2, d3, d4, d5, d6, d7, rfl, -⟩ := dig_parts hd
  obtain ⟨e0, e1, e2, e3, e4, e5, e6, e7, rfl, -⟩ := dig_parts he
  have hb0 : Below w.heap.size w (((w.alloc (.cells #[.int .u8 d0, .int .u8 d1, .int .u8 d2, .int .u8 d3, .int .u8 d4, .int .u8 d5, .int .u8 d6, .int .u8 d7, .slice PA pm pc] 32)).alloc (.cells #[.int .u8 e0, .int .u8 e1, .int .u8 e2, .int .u8 e3, .int .u8 e4, .int .u8 e5, .int .u8 e6, .int .u8 e7, .slice OA om oc] 32)).alloc (.cells #[.slice S1 n1 c1, .slice S2 n2 c2, .slice S3 n3 c3] 27)) := (((Below.refl _ _).alloc (Nat.le_refl _) _).alloc (by simp) _).alloc (by simp; omega) _
  have hz0 : (((w.alloc (.cells #[.int .u8 d0, .int .u8 d1, .int .u8 d2, .int .u8 d3, .int .u8 d4, .int .u8 d5, .int .u8 d6, .int .u8 d7, .slice PA pm pc] 32)).alloc (.cells #[.int .u8 e0, .int .u8 e1, .int .u8 e2, .int .u8 e3, .int .u8 e4, .int .u8 e5, .int .u8 e6, .int .u8 e7, .slice OA om oc] 32)).alloc (.cells #[.slice S1 n1 c1, .slice S2 n2 c2, .slice S3 n3 c3] 27)).heap.size = w.heap.size + 3 := by simp
  have hg0 : (((w.alloc (.cells #[.int .u8 d0, .int .u8 d1, .int .u8 d2, .int .u8 d3, .int .u8 d4, .int .u8 d5, .int .u8 d6, .int .u8 d7, .slice PA pm pc] 32)).alloc (.cells #[.int .u8 e0, .int .u8 e1, .int .u8 e2, .int .u8 e3, .int .u8 e4, .int .u8 e5, .int .u8 e6, .int .u8 e7, .slice OA om oc] 32)).alloc (.cells #[.slice S1 n1 c1, .slice S2 n2 c2, .slice S3 n3 c3] 27)).heap[w.heap.size]? = some (.cells #[.int .u8 d0, .int .u8 d1, .int .u8 d2, .int .u8 d3, .int .u8 d4, .int .u8 d5, .int .u8 d6, .int .u8 d7, .slice PA pm pc] 32 (0, 0)) := (Below.heap_alloc _ _ _ (by simp; omega)).trans ((Below.heap_alloc _ _ _ (by simp)).trans (heap_alloc_new w _))
  have hg1 : (((w.alloc (.cells #[.int .u8 d0, .int .u8 d1, .int .u8 d2, .int .u8 d3, .int .u8 d4, .int .u8 d5, .int .u8 d6, .int .u8 d7, .slice PA pm pc] 32)).alloc (.cells #[.int .u8 e0, .int .u8 e1, .int .u8 e2, .int .u8 e3, .int .u8 e4, .int .u8 e5, .int .u8 e6, .int .u8 e7, .slice OA om oc] 32)).alloc (.cells #[.slice S1 n1 c1, .slice S2 n2 c2, .slice S3 n3 c3] 27)).heap[w.heap.size + 1]? = some (.cells #[.int .u8 e0, .int .u8 e1, .int .u8 e2, .int .u8 e3, .int .u8 e4, .int .u8 e5, .int .u8 e6, .int .u8 e7, .slice OA om oc] 32 (0, 0)) := (Below.heap_alloc _ _ _ (by simp)).trans (by have := heap_alloc_new (w.alloc (.cells #[.int .u8 d0, .int .u8 d1, .int .u8 d2, .int .u8 d3, .int .u8 d4, .int .u8 d5, .int .u8 d6, .int .u8 d7, .slice PA pm pc] 32)) (.cells #[.int .u8 e0, .int .u8 e1, .int .u8 e2, .int .u8 e3, .int .u8 e4, .int .u8 e5, .int .u8 e6, .int .u8 e7, .slice OA om oc] 32); simpa using this)
  have hg2 : (((w.alloc (.cells #[.int .u8 d0, .int .u8 d1, .int .u8 d2, .int .u8 d3, .int .u8 d4, .int .u8 d5, .int .u8 d6, .int .u8 d7, .slice PA pm pc] 32)).alloc (.cells #[.int .u8 e0, .int .u8 e1, .int .u8 e2, .int .u8 e3, .int .u8 e4, .int .u8 e5, .int .u8 e6, .int .u8 e7, .slice OA om oc] 32)).alloc (.cells #[.slice S1 n1 c1, .slice S2 n2 c2, .slice S3 n3 c3] 27)).heap[w.heap.size + 2]? = some (.cells #[.slice S1 n1 c1, .slice S2 n2 c2, .slice S3 n3 c3] 27 (0, 0)) := by have := heap_alloc_new ((w.alloc (.cells #[.int .u8 d0, .int .u8 d1, .int .u8 d2, .int .u8 d3, .int .u8 d4, .int .u8 d5, .int .u8 d6, .int .u8 d7, .slice PA pm pc] 32)).alloc (.cells #[.int .u8 e0, .int .u8 e1, .int .u8 e2, .int .u8 e3, .int .u8 e4, .int .u8 e5, .int .u8 e6, .int .u8 e7, .slice OA om oc] 32)) (.cells #[.slice S1 n1 c1, .slice S2 n2 c2, .slice S3 n3 c3] 27); simpa using this
  have HZ0 := Lib.hid hz0
  have HB0 := Lib.hid hb0
  have HG0 := Lib.hid hg0
  have HG1 := Lib.hid hg1
  have HG2 := Lib.hid hg2
  have HD := Lib.hid hd'
  have HE := Lib.hid he'
  have HP := Lib.hid (hp.below hb0)
  have HO := Lib.hid (ho.below hb0)
  have HPF := Lib.hid hpf
  have HOF := Lib.hid hof
  have H1 := Lib.hid (h1.below hb0)
  have H2 := Lib.hid (h2.below hb0)
  clear hb0 hz0 hg0 hg1 hg2 hd' he' hp ho hpf hof h1 h2
  have hni : (n : Int) ≤ 10 := by omega
  show Calls Try.prog _ #[.agg #[.int .u8 d0, .int .u8 d1, .int .u8 d2, .int .u8 d3, .int .u8 d4, .int .u8 d5, .int .u8 d6, .int .u8 d7, .slice PA pm pc], .agg #[.int .u8 e0, .int .u8 e1, .int .u8 e2, .int .u8 e3, .int .u8 e4, .int .u8 e5, .int .u8 e6, .int .u8 e7, .slice OA om oc], _, _] w _
  have ne : ∀ (v : Value) (w : World), (binOp .eql 53 (.iface 78 v) .nilIface).run Try.prog w = .ok (.bool false) w := fun a w => by kernel_rfl
  have nas := nilAheadS
  have nms := methodS
  go_enter Try.func6, Try.ntmps6
  go_wp2_with fail
  generalize ((w.alloc (.cells #[.int .u8 d0, .int .u8 d1, .int .u8 d2, .int .u8 d3, .int .u8 d4, .int .u8 d5, .int .u8 d6, .int .u8 d7, .slice PA pm pc] 32)).alloc (.cells #[.int .u8 e0, .int .u8 e1, .int .u8 e2, .int .u8 e3, .int .u8 e4, .int .u8 e5, .int .u8 e6, .int .u8 e7, .slice OA om oc] 32)).alloc (.cells #[.slice S1 n1 c1, .slice S2 n2 c2, .slice S3 n3 c3] 27) = W0 at HZ0 HB0 HG0 HG1 HG2 HP HO H1 H2 ⊢
  refine (newBook W0).mono ?_
  rintro e wa ⟨rfl, hbk, hba⟩
  rw [HZ0.out] at hbk hba ⊢
  have HBK := Lib.hid hbk
  have HBA := Lib.hid hba
  clear hbk hba
  go_wp2_with fail
  go_loopw [12, 13, 14, 15, 16, 17] (fun s12 s13 s14 _ _ _ wr => ∃ k : Nat, k ≤ n ∧ Hid (VR w W0 sg ot (payD [d0, d1, d2, d3, d4, d5, d6, d7] pays) (payD [e0, e1, e2, e3, e4, e5, e6, e7] others) (w.heap.size + 3 + 1) (w.heap.size + 3) k s12 s13 s14 wr)) (fun _ _ s14 _ _ _ _ => n - (intOf s14).toNat)
  case atStart => exact ⟨0, Nat.zero_le _, none, 0, _, none, none, 0, 0, [], rfl, rfl, rfl, HBK.out, World.ownsRow_nil .., World.ownsRow_nil .., by simp, rfl, HBA.out⟩
  case round =>
    obtain ⟨k, hk, A, c, D, KA, SA, kc, sc, sigs, rfl, rfl, rfl, hB, hK, hS, hSI, hSB, hBl⟩ := hrel
    have HB := Lib.hid hB
    have HK := Lib.hid hK
    have HS := Lib.hid hS
    have HSI := Lib.hid hSI
    have HSB := Lib.hid hSB
    have HBl := Lib.hid hBl
    clear hB hK hS hSI hSB hBl
    by_cases hlt : k < n
    · have hBz : w.heap.size + 3 ≤ wr.heap.size := by have := HBl.out.size; rw [HZ0.out] at this; exact this
      have hb1 : Below wr.heap.size wr (wr.alloc (.cells #[.int .u8 ((k : Int) + 1), .int .u8 0, .int .u8 0, .int .u8 0, .int .u8 0, .int .u8 0, .int .u8 0, .int .u8 0] 30)) := (Below.refl _ _).alloc (Nat.le_refl _) _
      have HV0 : Hid (VM (w.heap.size + 3) W0 (w.heap.size + 3 + 1) (w.heap.size + 3) (entsTo sg ot (payD [d0, d1, d2, d3, d4, d5, d6, d7] pays) (payD [e0, e1, e2, e3, e4, e5, e6, e7] others) k) KA SA kc sc k k ((List.range k).map keyD) sigs wr) := ⟨⟨A, c, D, HB.out⟩, HK.out, HS.out, HSI.out, HBl.out⟩
      have HV1 := Lib.hid (HV0.out.below hb1 hBz)
      have HX1 : Hid ((wr.alloc (.cells #[.int .u8 ((k : Int) + 1), .int .u8 0, .int .u8 0, .int .u8 0, .int .u8 0, .int .u8 0, .int .u8 0, .int .u8 0] 30)).heap[wr.heap.size]? = some (.cells #[.int .u8 ((k : Int) + 1), .int .u8 0, .int .u8 0, .int .u8 0, .int .u8 0, .int .u8 0, .int .u8 0, .int .u8 0] 30 (0, 0))) := heap_alloc_new wr _
      have HZ1 : Hid ((wr.alloc (.cells #[.int .u8 ((k : Int) + 1), .int .u8 0, .int .u8 0, .int .u8 0, .int .u8 0, .int .u8 0, .int .u8 0, .int .u8 0] 30)).heap.size = wr.heap.size + 1) := by show _ = _; simp
      have HBz := Lib.hid hBz
      clear hb1 HV0 HB HK HS HSI HBl hBz
      go_wp2_with fail
      generalize wr.alloc (.cells #[.int .u8 ((k : Int) + 1), .int .u8 0, .int .u8 0, .int .u8 0, .int .u8 0, .int .u8 0, .int .u8 0, .int .u8 0] 30) = W1 at HV1 HX1 HZ1 ⊢
      generalize wr.heap.size = kb at HX1 HZ1 HBz ⊢
      refine (signerK _ k _ (by omega)).mono ?_
      rintro e w1 ⟨rfl, hb1⟩
      have HV2 := Lib.hid (HV1.out.below hb1 (by rw [HZ1.out]; have := HBz.out; omega))
      have HX2 : Hid (w1.heap[kb]? = some (.cells #[.int .u8 ((k : Int) + 1), .int .u8 0, .int .u8 0, .int .u8 0, .int .u8 0, .int .u8 0, .int .u8 0, .int .u8 0] 30 (0, 0))) := (hb1.block kb (by rw [HZ1.out]; omega)).trans HX1.out
      have HBz2 : Hid (w.heap.size + 3 ≤ w1.heap.size) := by have := HV2.out.bel.size; rw [HZ0.out] at this; exact this
      have hv0 : w1.cell? ⟨w.heap.size + 2, 0, none⟩ = some (.slice S1 n1 c1) := blk_cell ((HV2.out.bel.block _ (by omega)).trans HG2.out) 0
      have hv1 : w1.cell? ⟨w.heap.size + 2, 1, none⟩ = some (.slice S2 n2 c2) := blk_cell ((HV2.out.bel.block _ (by omega)).trans HG2.out) 1
      have HW : Hid (Below W0.heap.size W0 w1) := by rw [HZ0.out]; exact HV2.out.bel
      have HA1 := Lib.hid (at7 S1 n1 c1 k sg w1 (H1.out.below HW.out) (by omega))
      have HA2 := Lib.hid (at7 S2 n2 c2 k ot w1 (H2.out.below HW.out) (by omega))
      clear hb1 HV1 HX1 HZ1
      go_wp2_with fail
      refine HA1.out.mono ?_
      rintro e w' ⟨rfl, rfl⟩
      generalize hsg : atB sg k = b1
      have HSG1 := Lib.hid hsg
      clear hsg
      cases b1
      · go_wp2_with fail
        refine HA2.out.mono ?_
        rintro e w' ⟨rfl, rfl⟩
        generalize hot : atB ot k = b2
        have HOT1 := Lib.hid hot
        clear hot
        cases b2
        · clear HA1 HA2 hv0 hv1
          have HVE : Hid (voteE sg ot (payD [d0, d1, d2, d3, d4, d5, d6, d7] pays) (payD [e0, e1, e2, e3, e4, e5, e6, e7] others) k = none) := by show _ = _; simp [voteE, HSG1.out, HOT1.out]
          have HV4 : Hid (VM (w.heap.size + 3) W0 (w.heap.size + 3 + 1) (w.heap.size + 3) (entsTo sg ot (payD [d0, d1, d2, d3, d4, d5, d6, d7] pays) (payD [e0, e1, e2, e3, e4, e5, e6, e7] others) (k + 1)) KA SA kc sc k k ((List.range k).map keyD) sigs w1) := by
            show VM _ _ _ _ _ _ _ _ _ _ _ _ _ _
            rw [entsTo_succ, HVE.out]
            simpa using HV2.out
          have HP4 : Hid (SigIn w1 ⟨none, 0, 0, []⟩) := Or.inl rfl
          have HX4 := HX2
          have hBz4 : w.heap.size + 3 ≤ w1.heap.size := by have := HV4.out.bel.size; rw [HZ0.out] at this; exact this
          have t0 : w1.cell? ⟨kb, 0, none⟩ = some (.int .u8 ((k : Int) + 1)) := blk_cell HX4.out 0
          have t1 : w1.cell? ⟨kb, 1, none⟩ = some (.int .u8 0) := blk_cell HX4.out 1
          have t2 : w1.cell? ⟨kb, 2, none⟩ = some (.int .u8 0) := blk_cell HX4.out 2
          have t3 : w1.cell? ⟨kb, 3, none⟩ = some (.int .u8 0) := blk_cell HX4.out 3
          have t4 : w1.cell? ⟨kb, 4, none⟩ = some (.int .u8 0) := blk_cell HX4.out 4
          have t5 : w1.cell? ⟨kb, 5, none⟩ = some (.int .u8 0) := blk_cell HX4.out 5
          have t6 : w1.cell? ⟨kb, 6, none⟩ = some (.int .u8 0) := blk_cell HX4.out 6
          have t7 : w1.cell? ⟨kb, 7, none⟩ = some (.int .u8 0) := blk_cell HX4.out 7
          go_wp2_with (first | (at_builtin; refine wpList_appK rfl (.tmp 63) (.tmp 65) rfl (w.heap.size + 3) (.slice KA k kc) k ((List.range k).map keyD) (keyD k) rfl HV4.out.keys rfl _ rfl rfl (by omega) hBz4 ?_; intro A5 c5 w5 ho5 hg5; have HV5 := Lib.hid (HV4.out.keyed hBz4 hg5 ho5); have hBz5 : w.heap.size + 3 ≤ w5.heap.size := (by have := HV5.out.bel.size; rw [HZ0.out] at this; exact this); have HP5 : Hid (SigIn w5 ⟨none, 0, 0, []⟩) := (HP4.out.kp (Kp.of_below ((Below.refl _ _).alloc (Nat.le_refl _) _))).kx (Kx.of_grown hg5 (own_row (HV4.out.below ((Below.refl _ _).alloc (Nat.le_refl _) _) hBz4).keys)) (isTy_ne (by decide)); clear ho5 hg5 t0 t1 t2 t3 t4 t5 t6 t7) | (at_builtin; refine wpList_app1 tyPieces rfl (.tmp 67) (.tmp 69) rfl onePc (w.heap.size + 3) (.slice SA k sc) k sigs ⟨none, 0, 0, []⟩ _ rfl HV5.out.sgs rfl (by unfold maxLen; omega) (by omega) hBz5 ?_; intro A6 c6 w6 ho6 hg6 hat6))
          have HV6 := Lib.hid (HV5.out.sigged hBz5 HP5.out hg6 ho6)
          obtain ⟨A7, c7, D7, hbk7⟩ := HV6.out.book
          go_roundw
          case rel =>
            refine ⟨k + 1, by omega, A7, c7, D7, A5, A6, c5, c6, sigs ++ [⟨none, 0, 0, []⟩], by go_num, rfl, rfl, hbk7, ?_, HV6.out.sgs, HV6.out.sin, ?_, HV6.out.bel⟩
            · have := HV6.out.keys
              rw [List.range_succ, List.map_append]
              exact this
            · rw [List.map_append, List.range_succ, List.map_append, HSB.out]
              simp [sigB, HVE.out]
          case measure => simp [intOf]; omega
        · clear HA1 HA2 hv0 hv1
          go_wp2_with fail
          have HT : Hid (∀ W, Below (w.heap.size + 3) W0 W → W.cell? ⟨w.heap.size + 1, 0, none⟩ = some (.int .u8 e0) ∧ W.cell? ⟨w.heap.size + 1, 1, none⟩ = some (.int .u8 e1) ∧ W.cell? ⟨w.heap.size + 1, 2, none⟩ = some (.int .u8 e2) ∧ W.cell? ⟨w.heap.size + 1, 3, none⟩ = some (.int .u8 e3) ∧ W.cell? ⟨w.heap.size + 1, 4, none⟩ = some (.int .u8 e4) ∧ W.cell? ⟨w.heap.size + 1, 5, none⟩ = some (.int .u8 e5) ∧ W.cell? ⟨w.heap.size + 1, 6, none⟩ = some (.int .u8 e6) ∧ W.cell? ⟨w.heap.size + 1, 7, none⟩ = some (.int .u8 e7) ∧ W.cell? ⟨w.heap.size + 1, 8, none⟩ = some (.slice OA om oc)) := fun W hW => by
            have g1 : W.heap[w.heap.size + 1]? = _ := (hW.block _ (by omega)).trans HG1.out
            exact ⟨blk_cell g1 0, blk_cell g1 1, blk_cell g1 2, blk_cell g1 3, blk_cell g1 4, blk_cell g1 5, blk_cell g1 6, blk_cell g1 7, blk_cell g1 8⟩
          have hs0 := HT.out w1 HV2.out.bel
          go_region_held3 (fun W => W.cell? ⟨w.heap.size + 1, 0, none⟩ = some (.int .u8 e0) ∧ W.cell? ⟨w.heap.size + 1, 1, none⟩ = some (.int .u8 e1) ∧ W.cell? ⟨w.heap.size + 1, 2, none⟩ = some (.int .u8 e2) ∧ W.cell? ⟨w.heap.size + 1, 3, none⟩ = some (.int .u8 e3) ∧ W.cell? ⟨w.heap.size + 1, 4, none⟩ = some (.int .u8 e4) ∧ W.cell? ⟨w.heap.size + 1, 5, none⟩ = some (.int .u8 e5) ∧ W.cell? ⟨w.heap.size + 1, 6, none⟩ = some (.int .u8 e6) ∧ W.cell? ⟨w.heap.size + 1, 7, none⟩ = some (.int .u8 e7) ∧ W.cell? ⟨w.heap.size + 1, 8, none⟩ = some (.slice OA om oc)) (first | exact hs0 | exact HT.out _ hq3 | exact HT.out _ hq1.bel) (first | (go_at_call 8; refine (payDigest8 [e0, e1, e2, e3, e4, e5, e6, e7] OA om oc others w1.drew HE.out ((HO.out.below HW.out).drew) HOF.out (by omega)).mono ?_; rintro e w2 ⟨rfl, hb2⟩; have hq1 := HV2.out.below (below_of_drew hb2) HBz2.out; have HX3 : Hid (w2.heap[kb]? = some (.cells #[.int .u8 ((k : Int) + 1), .int .u8 0, .int .u8 0, .int .u8 0, .int .u8 0, .int .u8 0, .int .u8 0, .int .u8 0] 30 (0, 0))) := ((below_of_drew hb2).block kb (blk_lt HX2.out)).trans HX2.out) | (go_at_call 71; obtain ⟨A2, c2', D2, hbk2⟩ := hq1.book; have hB2 : w.heap.size + 3 ≤ w2.heap.size := (by have := hq1.bel.size; rw [HZ0.out] at this; exact this); refine (writerSign (w.heap.size + 3 + 1) (w.heap.size + 3) (w.heap.size + 3) c2' A2 D2 (entsTo sg ot (payD [d0, d1, d2, d3, d4, d5, d6, d7] pays) (payD [e0, e1, e2, e3, e4, e5, e6, e7] others) k) (keyD k) (payD [e0, e1, e2, e3, e4, e5, e6, e7] others) w2 (keyD_dig (by omega)) (ofI_dig _) hbk2 hB2 (by have := entsTo_len (sg := sg) (ot := ot) (pd := payD [d0, d1, d2, d3, d4, d5, d6, d7] pays) (od := payD [e0, e1, e2, e3, e4, e5, e6, e7] others) k; omega)).mono ?_; intro e w3 hr; obtain ⟨g, A3, c3', D3, rfl, hg3, hgs, hbk3, hkp3, hbe3⟩ := hr; have hq3 : Below (w.heap.size + 3) W0 w3 := hq1.bel.trans hbe3; have HR3 := Lib.hid (And.intro hg3 (And.intro hbk3 (And.intro hkp3 hbe3))); clear hg3 hgs hbk3 hkp3 hbe3 hbk2))
          all_goals (
            have HVE : Hid (voteE sg ot (payD [d0, d1, d2, d3, d4, d5, d6, d7] pays) (payD [e0, e1, e2, e3, e4, e5, e6, e7] others) k = some (keyD k, payD [e0, e1, e2, e3, e4, e5, e6, e7] others)) := by show _ = _; simp [voteE, HSG1.out, HOT1.out]
            have HV4 : Hid (VM (w.heap.size + 3) W0 (w.heap.size + 3 + 1) (w.heap.size + 3) (entsTo sg ot (payD [d0, d1, d2, d3, d4, d5, d6, d7] pays) (payD [e0, e1, e2, e3, e4, e5, e6, e7] others) (k + 1)) KA SA kc sc k k ((List.range k).map keyD) sigs w3) := by
              have := HR3.out.2.1
              rw [entsTo_putE HVE.out] at this
              exact hq1.signed HR3.out.2.2.1 HR3.out.2.2.2 this
            have HP4 : Hid (SigIn w3 ⟨some ⟨g, 0, none⟩, 2, 2, sigB sg ot (payD [d0, d1, d2, d3, d4, d5, d6, d7] pays) (payD [e0, e1, e2, e3, e4, e5, e6, e7] others) k⟩) := sig_made HVE.out (by omega) HR3.out.1
            have HX4 : Hid (w3.heap[kb]? = some (.cells #[.int .u8 ((k : Int) + 1), .int .u8 0, .int .u8 0, .int .u8 0, .int .u8 0, .int .u8 0, .int .u8 0, .int .u8 0] 30 (0, 0))) := HR3.out.2.2.1.block kb _ HX3.out (by simp [bookish])
            clear hq1 hq3 HT hs0 HR3 HX3
            have hBz4 : w.heap.size + 3 ≤ w3.heap.size := by have := HV4.out.bel.size; rw [HZ0.out] at this; exact this
            have t0 : w3.cell? ⟨kb, 0, none⟩ = some (.int .u8 ((k : Int) + 1)) := blk_cell HX4.out 0
            have t1 : w3.cell? ⟨kb, 1, none⟩ = some (.int .u8 0) := blk_cell HX4.out 1
            have t2 : w3.cell? ⟨kb, 2, none⟩ = some (.int .u8 0) := blk_cell HX4.out 2
            have t3 : w3.cell? ⟨kb, 3, none⟩ = some (.int .u8 0) := blk_cell HX4.out 3
            have t4 : w3.cell? ⟨kb, 4, none⟩ = some (.int .u8 0) := blk_cell HX4.out 4
            have t5 : w3.cell? ⟨kb, 5, none⟩ = some (.int .u8 0) := blk_cell HX4.out 5
            have t6 : w3.cell? ⟨kb, 6, none⟩ = some (.int .u8 0) := blk_cell HX4.out 6
            have t7 : w3.cell? ⟨kb, 7, none⟩ = some (.int .u8 0) := blk_cell HX4.out 7
            go_wp2_with (first | (at_builtin; refine wpList_appK rfl (.tmp 63) (.tmp 65) rfl (w.heap.size + 3) (.slice KA k kc) k ((List.range k).map keyD) (keyD k) rfl HV4.out.keys rfl _ rfl rfl (by omega) hBz4 ?_; intro A5 c5 w5 ho5 hg5; have HV5 := Lib.hid (HV4.out.keyed hBz4 hg5 ho5); have hBz5 : w.heap.size + 3 ≤ w5.heap.size := (by have := HV5.out.bel.size; rw [HZ0.out] at this; exact this); have HP5 : Hid (SigIn w5 ⟨some ⟨g, 0, none⟩, 2, 2, sigB sg ot (payD [d0, d1, d2, d3, d4, d5, d6, d7] pays) (payD [e0, e1, e2, e3, e4, e5, e6, e7] others) k⟩) := (HP4.out.kp (Kp.of_below ((Below.refl _ _).alloc (Nat.le_refl _) _))).kx (Kx.of_grown hg5 (own_row (HV4.out.below ((Below.refl _ _).alloc (Nat.le_refl _) _) hBz4).keys)) (isTy_ne (by decide)); clear ho5 hg5 t0 t1 t2 t3 t4 t5 t6 t7) | (at_builtin; refine wpList_app1 tyPieces rfl (.tmp 67) (.tmp 69) rfl onePc (w.heap.size + 3) (.slice SA k sc) k sigs ⟨some ⟨g, 0, none⟩, 2, 2, sigB sg ot (payD [d0, d1, d2, d3, d4, d5, d6, d7] pays) (payD [e0, e1, e2, e3, e4, e5, e6, e7] others) k⟩ _ rfl HV5.out.sgs rfl (by unfold maxLen; omega) (by omega) hBz5 ?_; intro A6 c6 w6 ho6 hg6 hat6))
            have HV6 := Lib.hid (HV5.out.sigged hBz5 HP5.out hg6 ho6)
            obtain ⟨A7, c7, D7, hbk7⟩ := HV6.out.book
            go_roundw
            case rel =>
              refine ⟨k + 1, by omega, A7, c7, D7, A5, A6, c5, c6, sigs ++ [⟨some ⟨g, 0, none⟩, 2, 2, sigB sg ot (payD [d0, d1, d2, d3, d4, d5, d6, d7] pays) (payD [e0, e1, e2, e3, e4, e5, e6, e7] others) k⟩], by go_num, rfl, rfl, hbk7, ?_, HV6.out.sgs, HV6.out.sin, ?_, HV6.out.bel⟩
              · have := HV6.out.keys
                rw [List.range_succ, List.map_append]
                exact this
              · rw [List.map_append, List.range_succ, List.map_append, HSB.out]
                rfl
            case measure => simp [intOf]; omega)
      · clear HA1 HA2 hv0 hv1
        go_wp2_with fail
        have HT : Hid (∀ W, Below (w.heap.size + 3) W0 W → W.cell? ⟨w.heap.size, 0, none⟩ = some (.int .u8 d0) ∧ W.cell? ⟨w.heap.size, 1, none⟩ = some (.int .u8 d1) ∧ W.cell? ⟨w.heap.size, 2, none⟩ = some (.int .u8 d2) ∧ W.cell? ⟨w.heap.size, 3, none⟩ = some (.int .u8 d3) ∧ W.cell? ⟨w.heap.size, 4, none⟩ = some (.int .u8 d4) ∧ W.cell? ⟨w.heap.size, 5, none⟩ = some (.int .u8 d5) ∧ W.cell? ⟨w.heap.size, 6, none⟩ = some (.int .u8 d6) ∧ W.cell? ⟨w.heap.size, 7, none⟩ = some (.int .u8 d7) ∧ W.cell? ⟨w.heap.size, 8, none⟩ = some (.slice PA pm pc)) := fun W hW => by
          have g1 : W.heap[w.heap.size]? = _ := (hW.block _ (by omega)).trans HG0.out
          exact ⟨blk_cell g1 0, blk_cell g1 1, blk_cell g1 2, blk_cell g1 3, blk_cell g1 4, blk_cell g1 5, blk_cell g1 6, blk_cell g1 7, blk_cell g1 8⟩
        have hs0 := HT.out w1 HV2.out.bel
        go_region_held3 (fun W => W.cell? ⟨w.heap.size, 0, none⟩ = some (.int .u8 d0) ∧ W.cell? ⟨w.heap.size, 1, none⟩ = some (.int .u8 d1) ∧ W.cell? ⟨w.heap.size, 2, none⟩ = some (.int .u8 d2) ∧ W.cell? ⟨w.heap.size, 3, none⟩ = some (.int .u8 d3) ∧ W.cell? ⟨w.heap.size, 4, none⟩ = some (.int .u8 d4) ∧ W.cell? ⟨w.heap.size, 5, none⟩ = some (.int .u8 d5) ∧ W.cell? ⟨w.heap.size, 6, none⟩ = some (.int .u8 d6) ∧ W.cell? ⟨w.heap.size, 7, none⟩ = some (.int .u8 d7) ∧ W.cell? ⟨w.heap.size, 8, none⟩ = some (.slice PA pm pc)) (first | exact hs0 | exact HT.out _ hq3 | exact HT.out _ hq1.bel) (first | (go_at_call 8; refine (payDigest8 [d0, d1, d2, d3, d4, d5, d6, d7] PA pm pc pays w1.drew HD.out ((HP.out.below HW.out).drew) HPF.out (by omega)).mono ?_; rintro e w2 ⟨rfl, hb2⟩; have hq1 := HV2.out.below (below_of_drew hb2) HBz2.out; have HX3 : Hid (w2.heap[kb]? = some (.cells #[.int .u8 ((k : Int) + 1), .int .u8 0, .int .u8 0, .int .u8 0, .int .u8 0, .int .u8 0, .int .u8 0, .int .u8 0] 30 (0, 0))) := ((below_of_drew hb2).block kb (blk_lt HX2.out)).trans HX2.out) | (go_at_call 71; obtain ⟨A2, c2', D2, hbk2⟩ := hq1.book; have hB2 : w.heap.size + 3 ≤ w2.heap.size := (by have := hq1.bel.size; rw [HZ0.out] at this; exact this); refine (writerSign (w.heap.size + 3 + 1) (w.heap.size + 3) (w.heap.size + 3) c2' A2 D2 (entsTo sg ot (payD [d0, d1, d2, d3, d4, d5, d6, d7] pays) (payD [e0, e1, e2, e3, e4, e5, e6, e7] others) k) (keyD k) (payD [d0, d1, d2, d3, d4, d5, d6, d7] pays) w2 (keyD_dig (by omega)) (ofI_dig _) hbk2 hB2 (by have := entsTo_len (sg := sg) (ot := ot) (pd := payD [d0, d1, d2, d3, d4, d5, d6, d7] pays) (od := payD [e0, e1, e2, e3, e4, e5, e6, e7] others) k; omega)).mono ?_; intro e w3 hr; obtain ⟨g, A3, c3', D3, rfl, hg3, hgs, hbk3, hkp3, hbe3⟩ := hr; have hq3 : Below (w.heap.size + 3) W0 w3 := hq1.bel.trans hbe3; have HR3 := Lib.hid (And.intro hg3 (And.intro hbk3 (And.intro hkp3 hbe3))); clear hg3 hgs hbk3 hkp3 hbe3 hbk2))
        all_goals (
          have HVE : Hid (voteE sg ot (payD [d0, d1, d2, d3, d4, d5, d6, d7] pays) (payD [e0, e1, e2, e3, e4, e5, e6, e7] others) k = some (keyD k, payD [d0, d1, d2, d3, d4, d5, d6, d7] pays)) := by show _ = _; simp [voteE, HSG1.out]
          have HV4 : Hid (VM (w.heap.size + 3) W0 (w.heap.size + 3 + 1) (w.heap.size + 3) (entsTo sg ot (payD [d0, d1, d2, d3, d4, d5, d6, d7] pays) (payD [e0, e1, e2, e3, e4, e5, e6, e7] others) (k + 1)) KA SA kc sc k k ((List.range k).map keyD) sigs w3) := by
            have := HR3.out.2.1
            rw [entsTo_putE HVE.out] at this
            exact hq1.signed HR3.out.2.2.1 HR3.out.2.2.2 this
          have HP4 : Hid (SigIn w3 ⟨some ⟨g, 0, none⟩, 2, 2, sigB sg ot (payD [d0, d1, d2, d3, d4, d5, d6, d7] pays) (payD [e0, e1, e2, e3, e4, e5, e6, e7] others) k⟩) := sig_made HVE.out (by omega) HR3.out.1
          have HX4 : Hid (w3.heap[kb]? = some (.cells #[.int .u8 ((k : Int) + 1), .int .u8 0, .int .u8 0, .int .u8 0, .int .u8 0, .int .u8 0, .int .u8 0, .int .u8 0] 30 (0, 0))) := HR3.out.2.2.1.block kb _ HX3.out (by simp [bookish])
          clear hq1 hq3 HT hs0 HR3 HX3
          have hBz4 : w.heap.size + 3 ≤ w3.heap.size := by have := HV4.out.bel.size; rw [HZ0.out] at this; exact this
          have t0 : w3.cell? ⟨kb, 0, none⟩ = some (.int .u8 ((k : Int) + 1)) := blk_cell HX4.out 0
          have t1 : w3.cell? ⟨kb, 1, none⟩ = some (.int .u8 0) := blk_cell HX4.out 1
          have t2 : w3.cell? ⟨kb, 2, none⟩ = some (.int .u8 0) := blk_cell HX4.out 2
          have t3 : w3.cell? ⟨kb, 3, none⟩ = some (.int .u8 0) := blk_cell HX4.out 3
          have t4 : w3.cell? ⟨kb, 4, none⟩ = some (.int .u8 0) := blk_cell HX4.out 4
          have t5 : w3.cell? ⟨kb, 5, none⟩ = some (.int .u8 0) := blk_cell HX4.out 5
          have t6 : w3.cell? ⟨kb, 6, none⟩ = some (.int .u8 0) := blk_cell HX4.out 6
          have t7 : w3.cell? ⟨kb, 7, none⟩ = some (.int .u8 0) := blk_cell HX4.out 7
          go_wp2_with (first | (at_builtin; refine wpList_appK rfl (.tmp 63) (.tmp 65) rfl (w.heap.size + 3) (.slice KA k kc) k ((List.range k).map keyD) (keyD k) rfl HV4.out.keys rfl _ rfl rfl (by omega) hBz4 ?_; intro A5 c5 w5 ho5 hg5; have HV5 := Lib.hid (HV4.out.keyed hBz4 hg5 ho5); have hBz5 : w.heap.size + 3 ≤ w5.heap.size := (by have := HV5.out.bel.size; rw [HZ0.out] at this; exact this); have HP5 : Hid (SigIn w5 ⟨some ⟨g, 0, none⟩, 2, 2, sigB sg ot (payD [d0, d1, d2, d3, d4, d5, d6, d7] pays) (payD [e0, e1, e2, e3, e4, e5, e6, e7] others) k⟩) := (HP4.out.kp (Kp.of_below ((Below.refl _ _).alloc (Nat.le_refl _) _))).kx (Kx.of_grown hg5 (own_row (HV4.out.below ((Below.refl _ _).alloc (Nat.le_refl _) _) hBz4).keys)) (isTy_ne (by decide)); clear ho5 hg5 t0 t1 t2 t3 t4 t5 t6 t7) | (at_builtin; refine wpList_app1 tyPieces rfl (.tmp 67) (.tmp 69) rfl onePc (w.heap.size + 3) (.slice SA k sc) k sigs ⟨some ⟨g, 0, none⟩, 2, 2, sigB sg ot (payD [d0, d1, d2, d3, d4, d5, d6, d7] pays) (payD [e0, e1, e2, e3, e4, e5, e6, e7] others) k⟩ _ rfl HV5.out.sgs rfl (by unfold maxLen; omega) (by omega) hBz5 ?_; intro A6 c6 w6 ho6 hg6 hat6))
          have HV6 := Lib.hid (HV5.out.sigged hBz5 HP5.out hg6 ho6)
          obtain ⟨A7, c7, D7, hbk7⟩ := HV6.out.book
          go_roundw
          case rel =>
            refine ⟨k + 1, by omega, A7, c7, D7, A5, A6, c5, c6, sigs ++ [⟨some ⟨g, 0, none⟩, 2, 2, sigB sg ot (payD [d0, d1, d2, d3, d4, d5, d6, d7] pays) (payD [e0, e1, e2, e3, e4, e5, e6, e7] others) k⟩], by go_num, rfl, rfl, hbk7, ?_, HV6.out.sgs, HV6.out.sin, ?_, HV6.out.bel⟩
            · have := HV6.out.keys
              rw [List.range_succ, List.map_append]
              exact this
            · rw [List.map_append, List.range_succ, List.map_append, HSB.out]
              rfl
          case measure => simp [intOf]; omega)
    · obtain rfl : k = n := by omega
      go_wp2_with fail
      go_ret3
      exact ⟨W0, _, _, _, _, rfl, HB0.out, A, c, D, KA, SA, kc, sc, sigs, rfl, rfl, rfl, HB.out, HK.out, HS.out, HSI.out, HSB.out, HBl.out⟩
end Go.Proofs.Ytpnegfocmaecbaa
