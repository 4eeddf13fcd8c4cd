/- CloseApart holds: for every input the law returns true and its arguments read afterwards as before. No condition. -/
import Derived.Test.YtpnegfocmaecbaaDoorApart3
import Derived.Deep.RegionLaw
import Derived.Deep.DeepCutAuto
import Derived.Deep.RegionHeld3
import Derived.Test.YtpnegfocmaecbaaDoorTie
import Derived.Test.YtpnegfocmaecbaaDoorCards
import Derived.LaidMore
import Derived.Stop.Joined
import Derived.SevenTiedAt
namespace Go.Proofs.YtpnegfocmaecbaaDoor.closeApart
open Go.ChangeShapes Go.WideShapes Go.ChangeAt Go.RowKit
open Go.ChangeMaps (open_string shut_string)
set_option linter.unusedVariables false

def TwoRows (w : World) (n m : Nat) (pays : List Int) (gone : List Bool) (lc : Array Value) (s5 s6 : Value) (wx : World) : Prop :=
  ∃ A1 c1 A2 c2, s5 = .slice A1 n c1 ∧ s6 = .slice A2 m c2 ∧ wx.ownsRow w.heap.size 3 1 (.slice A1 n c1) n (pays.map (Value.int .i64)) ∧ wx.ownsRow w.heap.size 4 1 (.slice A2 m c2) m (gone.map Value.bool) ∧ Below w.heap.size w wx ∧ wx.heap[w.heap.size]? = some (.cells lc 25 (0, 0))
set_option maxRecDepth 100000 in
set_option maxHeartbeats 2000000 in
theorem walk0 (A B : Option Addr) (n c m d : Nat) (pays : List Int) (seat bond : Int) (gone : List Bool) (w : World) (h : Sl (Value.int .i64) w A n pays) (hf : Fits pays) (hA : A = none → c = 0) (hg : Sl Value.bool w B m gone) (hB : B = none → d = 0) :
    Calls Tryd.prog 3 #[.slice A n c, .agg #[.int .i64 seat, .int .i64 bond, .slice B m d]] w fun e w' => e = .returned (.bool true) ∧ Below w.heap.size w w' := by
  have hm := h.max
  have hgm := hg.max
  have hb0 : Below w.heap.size w (w.alloc (.cells #[.int .i64 seat, .int .i64 bond, .slice B m d] 25)) := (Below.refl _ _).alloc (Nat.le_refl _) _
  have hg0 : (w.alloc (.cells #[.int .i64 seat, .int .i64 bond, .slice B m d] 25)).heap[w.heap.size]? = some (.cells #[.int .i64 seat, .int .i64 bond, .slice B m d] 25 (0, 0)) := heap_alloc_new w _
  have HB0 := Lib.hid hb0
  have HG0 := Lib.hid hg0
  have HS := Lib.hid h
  have HG := Lib.hid hg
  have HF := Lib.hid hf
  have HA := Lib.hid hA
  have HB := Lib.hid hB
  clear h hg hb0 hg0 hf hA hB
  by_cases hn : 8 < n
  · go_enter Tryd.func3, Tryd.ntmps3
    go_wp2_with (go_at_call 4; refine (told7 _).mono ?_; rintro e w' ⟨rfl, hb⟩)
    go_ret
    exact ⟨rfl, below_trans HB0.out hb (by simp)⟩
  have hn' : decide (8 < (n : Int)) = false := by simp; omega
  by_cases hn2 : 8 < m
  · go_enter Tryd.func3, Tryd.ntmps3
    go_wp2_with (go_at_call 4; refine (told7 _).mono ?_; rintro e w' ⟨rfl, hb⟩)
    go_ret
    exact ⟨rfl, below_trans HB0.out hb (by simp)⟩
  have hn2' : decide (8 < (m : Int)) = false := by simp; omega
  go_enter Tryd.func3, Tryd.ntmps3
  go_upto_region 3 with fail
  generalize w.alloc (.cells #[.int .i64 seat, .int .i64 bond, .slice B m d] 25) = W0 at HB0 HG0 ⊢
  have hz0 := HB0.out.size
  have l2 : W0.cell? ⟨w.heap.size, 2, none⟩ = some (.slice B m d) := blk_cell HG0.out 2
  have hl0 : w.heap.size < W0.heap.size := blk_lt HG0.out
  go_cut [5, 6] (fun s5 s6 wx => TwoRows w n m pays gone #[.int .i64 seat, .int .i64 bond, .slice B m d] s5 s6 wx)
  case first =>
    have bz : Below (w.heap.size + 1) W0 W0.drew := ⟨rfl, rfl, rfl, Nat.le_refl _, fun _ _ => rfl⟩
    have hzz : w.heap.size + 1 ≤ W0.drew.heap.size := hl0
    have hzy : ∀ {o : Obj}, w.heap.size + 1 ≤ (W0.drew.alloc o).heap.size := fun {o} => Nat.le_trans hzz (by simp)
    go_region_law (first | (refine step_app2 tyInts rfl (.tmp 24) (.tmp 25) rfl (oneInt .i64) (w.heap.size + 1) _ rfl (by first | (refine alloc_at ?_; (try simp); done) | (refine alloc_at2 ?_; (try simp); done) | (refine hk1 _ _ _ _ ?_ (alloc_at ?_) <;> first | decide | (simp; done)) | (refine hk1 _ _ _ _ ?_ (alloc_at2 ?_) <;> first | decide | (simp; done))) (by first | omega | (simp; omega)) A n c pays (by simp [Act.eval, Act.put]) (HS.out.below (HB0.out.trans (Below.mono (by first | exact b1 | exact b1.alloc z1 _ | exact bz.alloc hzz _ | exact (bz.alloc hzz _).alloc hzy _) (by omega)))) HA.out (by omega) (by omega) (by first | exact z1 | (simp; omega)) ?_; intro AI cI wI hoI hbI hkI; have hk1 := hkI; have b1 : Below (w.heap.size + 1) W0 wI := Below.trans (by first | exact b1 | exact b1.alloc z1 _ | exact bz.alloc hzz _ | exact (bz.alloc hzz _).alloc hzy _) hbI; have z1 : w.heap.size + 1 ≤ wI.heap.size := Nat.le_trans hl0 b1.size; have l21 : wI.cell? ⟨w.heap.size, 2, none⟩ = some (.slice B m d) := (b1.cell (p := ⟨w.heap.size, 2, none⟩) (by simp)).trans l2; have hl1 : w.heap.size < wI.heap.size := by omega) | (refine step_app2 tyBools rfl (.tmp 27) (.tmp 29) rfl oneBool (w.heap.size + 1) _ rfl (by first | (refine alloc_at ?_; (try simp); done) | (refine alloc_at2 ?_; (try simp); done) | (refine hk1 _ _ _ _ ?_ (alloc_at ?_) <;> first | decide | (simp; done)) | (refine hk1 _ _ _ _ ?_ (alloc_at2 ?_) <;> first | decide | (simp; done))) (by first | omega | (simp; omega)) B m d gone (by simp [Act.eval, Act.put]) (HG.out.below (HB0.out.trans (Below.mono (by first | exact b1 | exact b1.alloc z1 _ | exact bz.alloc hzz _ | exact (bz.alloc hzz _).alloc hzy _) (by omega)))) HB.out (by omega) (by omega) (by first | exact z1 | (simp; omega)) ?_; intro AB cB wB hoB hbB hkB; have hk1 := hkB; have b1 : Below (w.heap.size + 1) W0 wB := Below.trans (by first | exact b1 | exact b1.alloc z1 _ | exact bz.alloc hzz _ | exact (bz.alloc hzz _).alloc hzy _) hbB; have z1 : w.heap.size + 1 ≤ wB.heap.size := Nat.le_trans hl0 b1.size; have l21 : wB.cell? ⟨w.heap.size, 2, none⟩ = some (.slice B m d) := (b1.cell (p := ⟨w.heap.size, 2, none⟩) (by simp)).trans l2; have hl1 : w.heap.size < wB.heap.size := by omega))
    all_goals (
      go_wp2_with fail
      go_meet
      first
        | exact ⟨AI, cI, AB, cB, rfl, rfl, own_mono (own_typed hoI hkB (by decide)) (by omega), own_mono hoB (by omega), HB0.out.trans (b1.mono (by omega)), (b1.block _ (by omega)).trans HG0.out⟩
        | exact ⟨AI, cI, AB, cB, rfl, rfl, own_mono hoI (by omega), own_mono (own_typed hoB hkI (by decide)) (by omega), HB0.out.trans (b1.mono (by omega)), (b1.block _ (by omega)).trans HG0.out⟩
        | exact ⟨AI, cI, AB, cB, rfl, rfl, own_mono (own_typed (hoI.alloc _) hkB (by decide)) (by omega), own_mono hoB (by omega), HB0.out.trans (b1.mono (by omega)), (b1.block _ (by omega)).trans HG0.out⟩
        | exact ⟨AI, cI, AB, cB, rfl, rfl, own_mono hoI (by omega), own_mono (own_typed (hoB.alloc _) hkI (by decide)) (by omega), HB0.out.trans (b1.mono (by omega)), (b1.block _ (by omega)).trans HG0.out⟩)
  case rest =>
    obtain ⟨A1, c1, A2, c2, rfl, rfl, h1, h2, hb, hl⟩ := hcut
    have HR1 := Lib.hid h1
    have HR2 := Lib.hid h2
    have HBC := Lib.hid hb
    have HL := Lib.hid hl
    clear h1 h2 hb hl l2 hl0 hz0 HB0 HG0
    have l0 : World.cell? _ ⟨w.heap.size, 0, none⟩ = some (Value.int .i64 seat) := blk_cell HL.out 0
    have l1 : World.cell? _ ⟨w.heap.size, 1, none⟩ = some (Value.int .i64 bond) := blk_cell HL.out 1
    have HFF := Lib.hid (forfeit10 A1 A2 n c1 m c2 pays seat bond gone _ (Sl.of_row HR1.out) HF.out (Sl.of_row HR2.out))
    go_wp2_with fail
    refine HFF.out.mono ?_
    rintro e w3 ⟨A3, n3, c3, rfl, ho3, hb3⟩
    generalize forfC pays seat bond gone = C at HFF
    generalize forfY pays seat bond gone = Y at HFF ho3
    have HO3 := Lib.hid ho3
    have HB3 := Lib.hid hb3
    have h3m : n3 ≤ 9223372036854775807 := (Sl.of_row ho3).max
    clear ho3 hb3 HFF l0 l1
    rename_i wc _
    go_wp2_with fail
    go_loopw [9] (fun s9 wr => ∃ (k : Nat) (ys : List Int), k ≤ n3 ∧ s9 = .int .i64 k ∧ Hid (wr.ownsRow wc.heap.size 3 1 (.slice A3 n3 c3) n3 (ys.map (Value.int .i64))) ∧ Hid (Below wc.heap.size wc wr)) (fun s9 _ => n3 - (intOf s9).toNat)
    case atStart => exact ⟨0, Y, Nat.zero_le _, rfl, HO3, HB3⟩
    case round =>
      obtain ⟨k, ys, hk, rfl, HOR, HBR⟩ := hrel
      by_cases hlt : k < n3
      · obtain ⟨g, rfl, hg1, hg2⟩ := own_some HOR.out (by omega)
        have hcc := HOR.out.cellAt k (by omega)
        obtain ⟨y0, hy0⟩ : ∃ y0, ys[k]? = some y0 := ⟨_, List.getElem?_eq_getElem (by have := HOR.out.1; simp at this; omega)⟩
        rw [List.getElem?_map, hy0] at hcc
        have hcell : wr.cell? ⟨g, k, none⟩ = some (.int .i64 y0) := hcc
        have hfz := HOR.out.frozenAt k
        have HON : Hid ((wr.setCell ⟨g, k, none⟩ (.int .i64 (-7))).ownsRow wc.heap.size 3 1 (.slice (some ⟨g, 0, none⟩) n3 c3) n3 ((ys.set k (-7)).map (Value.int .i64))) := by
          show World.ownsRow _ _ _ _ _ _ _
          rw [List.map_set]
          exact (HOR.out.stored k _).1
        have HBN : Hid (Below wc.heap.size wc (wr.setCell ⟨g, k, none⟩ (.int .i64 (-7)))) := HBR.out.setCell hg1 _
        clear hcc hy0
        go_wp2_with fail
        go_roundw
        case rel => exact ⟨k + 1, ys.set k (-7), by omega, by go_num, HON, HBN⟩
        case measure => simp [intOf]; omega
      · have HBW := HBR
        have HW : Hid (Below w.heap.size w wr) := HBC.out.trans (HBR.out.mono HBC.out.size)
        clear HO3 HB3 HOR HBR
        go_wp2_with fail
        refine (paysN _ 5 _).mono ?_
        rintro e w4 ⟨rfl, hb4⟩
        have HB4 : Hid (Below wc.heap.size wc w4) := HBW.out.trans (hb4.mono HBW.out.size)
        have HW4 : Hid (Below w.heap.size w w4) := HW.out.trans (hb4.mono HW.out.size)
        have hal := alikeR A1 A n n c1 c pays pays w4 (Sl.of_row (own_below HR1.out HB4.out)) (HS.out.below HW4.out)
        rw [show (pays == pays) = true by simp] at hal
        have HAL := Lib.hid hal
        clear hal hb4 HBW HW
        go_wp2_with fail
        refine HAL.out.mono ?_
        rintro e w5 ⟨rfl, N, rfl⟩
        have HB5 : Hid (Below wc.heap.size wc (w4.drewN N)) := belowDrewN HB4.out N
        clear HAL HB4 HW4
        go_wp2_with fail
        go_loopw [12] (fun s12 wr => ∃ k : Nat, k ≤ m ∧ s12 = .int .i64 k ∧ Hid (Below wc.heap.size wc wr)) (fun s12 _ => m - (intOf s12).toNat)
        case atStart => exact ⟨0, Nat.zero_le _, rfl, HB5⟩
        case round =>
          clear HB5
          obtain ⟨k, hk, rfl, HBR⟩ := hrel
          have HW : Hid (Below w.heap.size w wr) := HBC.out.trans (HBR.out.mono HBC.out.size)
          by_cases hlt : k < m
          · obtain ⟨b1, o1, v1, hA2, hbl1, q1, hv1⟩ := (Sl.of_row (own_below HR2.out HBR.out)).get hlt
            obtain ⟨b2, o2, v2, hBB, hbl2, q2, hv2⟩ := (HG.out.below HW.out).get hlt
            have hvv : v1 = v2 := Option.some.inj (hv1.out.symm.trans hv2.out)
            have l2 : wr.cell? ⟨w.heap.size, 2, none⟩ = some (.slice B m d) := blk_cell ((HBR.out.block _ (blk_lt HL.out)).trans HL.out) 2
            have hk0 : (0 : Int) ≤ (k : Int) := by omega
            have hki : (k : Int) < (m : Int) := by omega
            subst hA2 hBB hvv
            cases v1
            all_goals (
              go_wp2_with fail
              go_quiet (fail)
              go_wp2_with fail
              go_roundw
              case rel => exact ⟨k + 1, by omega, by go_num, belowDrewN HBR.out _⟩
              case measure => simp [intOf]; omega)
          · go_wp2_with fail
            refine (agreeLit wr).mono ?_
            rintro e w6 ⟨rfl, hb6⟩
            have HW6 : Hid (Below w.heap.size w w6) := HW.out.trans (hb6.mono HW.out.size)
            clear hb6 HW HBR
            go_wp2_with (go_at_call 4; refine (told7 _).mono ?_; rintro e w' ⟨rfl, hb⟩)
            go_ret
            exact ⟨rfl, HW6.out.trans (hb.mono HW6.out.size)⟩

set_option maxRecDepth 100000 in
theorem walk {H : Type} {enc : TypeId × Value → H} {base : Nat} {d : DataW H} {p : List MemPlace} (A : Option Addr) (n c : Nat) (xs : List Int) (v : Value) (w : World) (h : Sl (Value.int .i64) w A n xs) (hf : Fits xs) (hA : A = none → c = 0)
    (hv : Value.okWide Tryd.prog w .any base 25 v) (k : DataW.Trod enc Tryd.prog w 0 (fun _ => true) true 25 v d p) :
    Calls Tryd.prog 3 #[.slice A n c, v] w fun e w' => e = .returned (.bool true) ∧ Below w.heap.size w w' := by
  obtain ⟨seat, bond, B, m, c', gone, rfl, hg, _, _, hB⟩ := loss_in hv k
  exact walk0 A B n c m c' xs seat bond gone w h hf hA hg hB

theorem door_met (os : Os) (args : Array Value) : laidMetH Tryd.prog [("baize/code.operations", Rows.laid_baize_code_operations)] ((World.doorLaid Tryd.prog 400 os).forCall (fun _ _ => 0) ⟨#[], args, []⟩).memory :=
  laidMetH_of_parts3 (fuel := 8) (laidMet_of_run' 8 (by kernel_rfl) (by kernel_rfl)) (by kernel_rfl) (by kernel_rfl)
set_option maxRecDepth 100000 in
theorem lifted (os : Os) (started : os.Started) (H : Type) (enc : TypeId × Value → H) :
    ReturnsInHanded {} Tryd.checked os 3 .any (fun w args => (Rows.closeApartSpec.pre enc Tryd.prog Tryd.f3 [] false w args ∧ laidMetH Tryd.prog [("baize/code.operations", Rows.laid_baize_code_operations)] w) ∧ sizedMet enc Tryd.prog Tryd.f3 (OpenSpec.ofChange Rows.closeApartSpec) false w args) (Rows.closeApartSpec.post enc Tryd.prog Tryd.f3 false true false false) := by
  refine returnsInHanded_of_change_and (C := Tryd.checked) (X := fun w _ => laidMetH Tryd.prog [("baize/code.operations", Rows.laid_baize_code_operations)] w) (fun _ _ _ hh h => h.of_heap hh) own_knob started (by kernel_rfl) Tryd.func3
    (ChangeSpec.witness_shaped (enc := enc) (C := Tryd.checked) (os := os) (X := fun w _ => laidMetH Tryd.prog [("baize/code.operations", Rows.laid_baize_code_operations)] w) false (World.doorLaid Tryd.prog 400 os) #[.slice none 0 0, .agg #[.int .i64 0, .int .i64 0, .slice none 0 0]] 8 rfl (World.shaped_of_RefB (by kernel_rfl) (by kernel_rfl)) (by kernel_rfl) (by kernel_rfl) (by kernel_rfl) (door_met os _)) ?_
  intro W base args ds gs before hval0 hW _ _ hL _
  have hval : ∀ (j : Nat) t v, Tryd.f3.params[j]? = some t → args[j]? = some v → Value.okWide Tryd.prog W .any base t v := hval0
  have hW' := hW
  obtain ⟨p, q, hA0, hV, rfl, hfz, hnd⟩ := hW
  have hA : DataW.TrodAll enc Tryd.prog W 0 (fun _ => true) true Tryd.f3.params.toList args.toList ds p := hA0
  rw [Tryd.params3] at hA hval
  obtain ⟨v0, vs0, d0, ds0, p0, q0, hargs, rfl, rfl, h0, r0⟩ := trodAll_cons hA
  obtain ⟨v1, vs1, d1, ds1, p1, q1, rfl, rfl, rfl, h1, r1⟩ := trodAll_cons r0
  obtain ⟨rfl, rfl, rfl⟩ := trodAll_nil r1
  obtain rfl : args = #[v0, v1] := by cases args; simp_all
  obtain ⟨rfl, rfl⟩ := trodVars_none hV
  obtain ⟨a0, len0, cap0, rfl⟩ := okWide_slice Tryd.underlying22 (hval 0 22 v0 rfl rfl)
  have k0 := h0
  have lt0 : ∀ x ∈ p0, x.block < W.heap.size := by obtain ⟨m, hm⟩ := k0; exact DataW.trod_lt m _ _ _ hm
  obtain ⟨xs0, sl0, wf0, nl0⟩ : ∃ xs : List Int, Sl (Value.int .i64) W a0 len0 xs ∧ (∀ n ∈ xs, (Lit.int .i64 n).wf = true) ∧ (a0 = none → cap0 = 0) := by
    obtain ⟨fuel, hf⟩ := h0
    exact ints_in Tryd.underlying22 Tryd.underlying3 (by kernel_rfl) (by simpa [Value.cells] using hf)
  have k1 := h1
  have lt1 : ∀ x ∈ p1, x.block < W.heap.size := by obtain ⟨m, hm⟩ := k1; exact DataW.trod_lt m _ _ _ hm
  have ok1 := hval 1 25 v1 rfl rfl
  clear hA0 hval0
  refine (walk a0 len0 cap0 xs0 v1 W sl0 (fits_wf wf0) nl0 ok1 k1).mono fun e W' ⟨he, bel⟩ => ?_
  subst he
  exact ⟨_, rfl, _, _, _, [], _, [], hW', trodAll_mk1 (shut_bool Tryd.underlying4 _), (trodAll_cons_mk (Below.trod laid_out (by kernel_rfl) (of_decide_eq_true (by kernel_rfl)) k0 bel lt0) (trodAll_cons_mk (Below.trod laid_out (by kernel_rfl) (of_decide_eq_true (by kernel_rfl)) k1 bel lt1) trodAll_mk0)), rfl, bel.frame _, fun h => by cases h⟩

theorem over : Rows.closeApartRow.holds Tryd.pinned (OpenSpec.ofChange Rows.closeApartSpec) :=
  OpenClaim.holds_of_wide 3 Tryd.f3 rfl rfl rfl rfl rfl rfl rfl ⟨rfl, rfl, rfl, rfl, rfl⟩ rfl rfl rfl rfl rfl (by kernel_rfl) Tryd.func3 (by kernel_rfl)
    (of_decide_eq_true (by kernel_rfl)) (by unfold Func.isWrapper; first | (rw [if_pos (by decide +kernel)]; kernel_rfl) | (rw [if_neg (by decide +kernel)]; exact ⟨rfl, rfl⟩))
    (fun os started H enc _ => lifted os started H enc)

/-- The statement: the tied card. -/
theorem proved : Rows.CloseApartCardSaid :=
  Claim7.holds_tied_plain_at .later [] [.data] true (true, "de098510c2c8fa4a53ea341d2b883f7ae843c1739d3b67576590dcd2a9a53b4f") false
    over (fun _ h => by cases h) (by kernel_rfl) (fun _ h => by cases h) closeApart_row_tie rfl ⟨rfl, rfl⟩ (by kernel_rfl) rfl
    (fun f fn hf hfn => by
      obtain rfl : f = 3 := Option.some.inj ((show Tryd.prog.funcNamed "baize/baizelaw35.CloseApart" = some 3 by kernel_rfl).symm.trans hf) |>.symm
      obtain rfl : fn = Tryd.f3 := (Option.some.inj (Tryd.func3.symm.trans hfn)).symm
      exact ⟨by kernel_rfl, fun j t ht => by
        rw [Tryd.params3] at ht
        have hm : t ∈ [22, 25] := by simpa using Array.mem_of_getElem? ht
        have hall : ([22, 25].all fun u => !Tryd.prog.wantsStandIn u) = true := by kernel_rfl
        exact (show Tryd.prog.wantsStandIn t = false by simpa using List.all_eq_true.1 hall t hm)⟩)
    (by kernel_rfl)
#print axioms proved
end Go.Proofs.YtpnegfocmaecbaaDoor.closeApart
