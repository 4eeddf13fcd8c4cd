/- CloseKeeps holds: for every input the law returns true and its arguments read afterwards as before. No condition. -/
import Derived.Test.YtdicmdghmngfdaaJ
import Derived.Deep.RegionHeld3
namespace Go.Proofs.Ytdicmdghmngfdaa.closeKeeps
open Go.ChangeShapes Go.WideShapes Go.ChangeAt Go.RowKit
open Go.ChangeMaps (open_string shut_string)
set_option linter.unusedVariables false

structure LossV where
  seat : Int
  bond : Int
  B : Option Addr
  m : Nat
  d : Nat
  gone : List Bool
def LossV.cells (u : LossV) : List Value := [.int .i64 u.seat, .int .i64 u.bond, .slice u.B u.m u.d]
def LossV.ok (w : World) (u : LossV) : Prop := Sl Value.bool w u.B u.m u.gone ∧ (-9223372036854775808 ≤ u.seat ∧ u.seat ≤ 9223372036854775807) ∧ (-9223372036854775808 ≤ u.bond ∧ u.bond ≤ 9223372036854775807)

theorem forfC_none {N : List Int} {seat bond : Int} {gone : List Bool} (h : sumFrom 0 N = none) : forfC N seat bond gone ≠ 0 := by
  intro h0
  exact (forf_holds N seat bond gone h0).ok h

set_option maxRecDepth 100000 in
set_option maxHeartbeats 1000000 in
theorem walk0 (A L : Option Addr) (n c ln lc : Nat) (pays : List Int) (us : List LossV) (w : World) (h : Sl (Value.int .i64) w A n pays) (hf : Fits pays) (hA : A = none → c = 0) (hu : Sln 3 LossV.cells w L ln us) (hok : ∀ u ∈ us, u.ok w) (hn : n ≤ 8) (hln : ln ≤ 10) :
    Calls Try.prog 5 #[.slice A n c, .slice L ln lc] w fun e w' => e = .returned (.bool true) ∧ Below w.heap.size w w' := by
  have hm := h.max
  have hgm := hu.max
  have HH := Lib.hid h
  have HA := Lib.hid hA
  have HU := Lib.hid hu
  have HOK := Lib.hid hok
  have hn' : decide (8 < (n : Int)) = false := by simp; omega
  have hs := sumR A n c pays
  have HS := Lib.hid hs
  clear h hA hu hok hs
  go_enter Try.func5, Try.ntmps5
  go_wp2_with (at_builtin; refine wpList_app tyInts rfl _ _ rfl (oneInt .i64) w.heap.size (.slice (some ⟨w.heap.size, 0, none⟩) 0 0) 0 [] rfl (own_lit _ w _ #[] 3 0 [] (Nat.le_refl _) rfl (by decide) rfl) A n c pays rfl (HH.out.alloc _) HA.out (by unfold maxLen; omega) (by omega) (by simp) ?_; intro A1 k1 w1 hown1 hgrow1 hat1)
  have hb1 : Below w.heap.size w w1 := ((Below.refl w.heap.size w).alloc (Nat.le_refl _) _).grown hgrow1 (by simp) (fun k hk => by simp [Value.ownBlock] at hk; omega)
  have hc := HS.out w1 (HH.out.below hb1) hf
  simp only [Nat.zero_add, List.nil_append] at hown1 ⊢
  have hown := Sl.of_row hown1
  have HO1 := Lib.hid hown
  clear hat1 hgrow1 hown1 hown
  rcases hT : sumFrom 0 pays with _ | t
  · rw [hT, sumRes] at hc
    have HC := Lib.hid hc
    have HT := Lib.hid hT
    clear hT hc
    refine HC.out.mono ?_
    rintro e w' ⟨rfl, rfl⟩
    go_wp2_with fail
    go_loopw [5, 8] (fun s i wr => ∃ (k : Nat) (A2 : Option Addr) (c2 : Nat) (N : List Int), k ≤ ln ∧ i = .int .i64 k ∧ s = .slice A2 n c2 ∧ Sl (Value.int .i64) wr A2 n N ∧ Fits N ∧ Hid (sumFrom 0 N = none) ∧ Below w.heap.size w wr) (fun _ i _ => ln - (intOf i).toNat)
    case atStart => exact ⟨0, A1, k1, pays, Nat.zero_le _, rfl, rfl, HO1.out, hf, HT, hb1⟩
    case round =>
      obtain ⟨k, A2, c2, N, hk, rfl, rfl, hN, hfN, HN, hbel⟩ := hrel
      have HNN := Lib.hid hN
      clear hN hb1
      by_cases hlt : k < ln
      · obtain ⟨b, off, u, rfl, hbs, hck, huk⟩ := (HU.out.below hbel).get hlt
        obtain ⟨ok1, ok2, ok3⟩ := HOK.out u (List.mem_of_getElem? huk.out)
        have g0 := hck 0 _ rfl
        have g1 := hck 1 _ rfl
        have g2 := hck 2 _ rfl
        rw [Nat.add_zero] at g0
        have hc10 := forfeit10 A2 u.B n c2 u.m u.d N u.seat u.bond u.gone wr.drew HNN.out.drew hfN (ok1.below hbel).drew
        have hne := forfC_none (seat := u.seat) (bond := u.bond) (gone := u.gone) HN.out
        rw [forfY_no hne] at hc10
        obtain ⟨C, hC⟩ : ∃ C, forfC N u.seat u.bond u.gone = C := ⟨_, rfl⟩
        rw [hC] at hc10 hne
        have HC10 := Lib.hid hc10
        have hne' : (C != 0) = true := by simpa using hne
        clear hck hc10 hC hne
        go_wp2_with fail
        go_region_held3 (fun w' => w'.cell? ⟨b, off + k * 3, none⟩ = some (.int .i64 u.seat) ∧ w'.cell? ⟨b, off + k * 3 + 1, none⟩ = some (.int .i64 u.bond) ∧ w'.cell? ⟨b, off + k * 3 + 2, none⟩ = some (.slice u.B u.m u.d)) (first | exact ⟨g0, g1, g2⟩ | exact ⟨(hb3.cell (p := ⟨b, off + k * 3, none⟩) hbs).trans g0, (hb3.cell (p := ⟨b, off + k * 3 + 1, none⟩) hbs).trans g1, (hb3.cell (p := ⟨b, off + k * 3 + 2, none⟩) hbs).trans g2⟩) (first | (go_at_call 10; refine HC10.out.mono ?_; rintro e w2 ⟨A3, n3, c3, rfl, ho3, hb3⟩))
        obtain rfl : n3 = 0 := by have := ho3.1; simpa using this.symm
        have HB3 := Lib.hid hb3
        clear ho3 hb3 g0 g1 g2
        go_wp2_with fail
        go_roundw
        case rel => exact ⟨k + 1, A2, c2, N, by omega, by go_num, rfl, HNN.out.drew.below HB3.out, hfN, HN, below_trans hbel.drew HB3.out hbel.size⟩
        case measure => simp [intOf]; omega
      · obtain rfl : k = ln := by omega
        go_wp2_with (go_at_call 7; refine (told7 _).mono ?_; rintro e w' ⟨rfl, hb⟩)
        go_ret
        exact ⟨rfl, below_trans hbel hb hbel.size⟩
  · rw [hT, sumRes] at hc
    have HC := Lib.hid hc
    have HT := Lib.hid hT
    have htt : (t != t) = false := by simp
    have hnn : ((n : Int) != (n : Int)) = false := by simp
    clear hT hc
    refine HC.out.mono ?_
    rintro e w' ⟨rfl, rfl⟩
    go_wp2_with fail
    have hln' : decide (10 < (ln : Int)) = false := by simp; omega
    simp only [hln']
    go_loopw [5, 8] (fun s i wr => ∃ (k : Nat) (A2 : Option Addr) (c2 : Nat) (N : List Int), k ≤ ln ∧ i = .int .i64 k ∧ s = .slice A2 n c2 ∧ Sl (Value.int .i64) wr A2 n N ∧ Fits N ∧ Hid (sumFrom 0 N = some t) ∧ Below w.heap.size w wr) (fun _ i _ => ln - (intOf i).toNat)
    case atStart => exact ⟨0, A1, k1, pays, Nat.zero_le _, rfl, rfl, HO1.out, hf, HT, hb1⟩
    case round =>
      obtain ⟨k, A2, c2, N, hk, rfl, rfl, hN, hfN, HN, hbel⟩ := hrel
      have HNN := Lib.hid hN
      clear hN hb1
      by_cases hlt : k < ln
      · obtain ⟨b, off, ⟨seat, bond, B, m, d, gone⟩, rfl, hbs, hck, huk⟩ := (HU.out.below hbel).get hlt
        obtain ⟨ok1, ⟨o2a, o2b⟩, o3a, o3b⟩ := HOK.out _ (List.mem_of_getElem? huk.out)
        dsimp only at ok1 o2a o2b o3a o3b
        have g0 : wr.cell? ⟨b, off + k * 3 + 0, none⟩ = some (.int .i64 seat) := hck 0 _ rfl
        have g1 : wr.cell? ⟨b, off + k * 3 + 1, none⟩ = some (.int .i64 bond) := hck 1 _ rfl
        have g2 : wr.cell? ⟨b, off + k * 3 + 2, none⟩ = some (.slice B m d) := hck 2 _ rfl
        rw [Nat.add_zero] at g0
        have HGN : Hid (Sl Value.bool wr.drew B m gone) := (ok1.below hbel).drew
        have hc10 := forfeit10 A2 B n c2 m d N seat bond gone wr.drew HNN.out.drew hfN (ok1.below hbel).drew
        clear hck ok1
        by_cases hz : forfC N seat bond gone = 0
        · have F := forf_holds N seat bond gone hz
          obtain ⟨X, hX⟩ : ∃ X, forfY N seat bond gone = X := ⟨_, rfl⟩
          rw [hX] at F hc10
          rw [hz] at hc10
          have HC10 := Lib.hid hc10
          have HF := Lib.hid F
          clear hc10 hz hX F
          go_wp2_with fail
          go_region_held3 (fun w' => w'.cell? ⟨b, off + k * 3, none⟩ = some (.int .i64 seat) ∧ w'.cell? ⟨b, off + k * 3 + 1, none⟩ = some (.int .i64 bond) ∧ w'.cell? ⟨b, off + k * 3 + 2, none⟩ = some (.slice B m d)) (first | exact ⟨g0, g1, g2⟩ | exact ⟨(hb3.cell (p := ⟨b, off + k * 3, none⟩) hbs).trans g0, (hb3.cell (p := ⟨b, off + k * 3 + 1, none⟩) hbs).trans g1, (hb3.cell (p := ⟨b, off + k * 3 + 2, none⟩) hbs).trans g2⟩) (first | (go_at_call 10; refine HC10.out.mono ?_; rintro e w2 ⟨A3, n3, c3, rfl, ho3, hb3⟩))
          obtain rfl : n3 = n := by have h1 := ho3.1; have h2 := HF.out.len; have h3 := HNN.out.len; simp at h1; omega
          have hX := Sl.of_row ho3
          have hfX : Fits X := fun x hx => by have := HF.out.nonneg x hx; omega
          have hsx := sumR A3 n3 c3 X w2 hX hfX
          rw [HF.out.sum, HN.out, sumRes] at hsx
          have HSX := Lib.hid hsx
          have HX := Lib.hid hX
          have HN2 : Hid (Sl (Value.int .i64) w2 A2 n3 N) := HNN.out.drew.below hb3
          have HG2 : Hid (Sl Value.bool w2 B m gone) := HGN.out.below hb3
          have k0 : w2.cell? ⟨b, off + k * 3, none⟩ = some (.int .i64 seat) := (hb3.cell (p := ⟨b, off + k * 3, none⟩) hbs).trans g0
          have k1 : w2.cell? ⟨b, off + k * 3 + 1, none⟩ = some (.int .i64 bond) := (hb3.cell (p := ⟨b, off + k * 3 + 1, none⟩) hbs).trans g1
          have k2 : w2.cell? ⟨b, off + k * 3 + 2, none⟩ = some (.slice B m d) := (hb3.cell (p := ⟨b, off + k * 3 + 2, none⟩) hbs).trans g2
          have HB3 : Hid (Below w.heap.size w w2) := below_trans hbel.drew hb3 hbel.size
          obtain rfl : m = n3 := by have h1 := HGN.out.len; have h2 := HF.out.glen; have h3 := HNN.out.len; omega
          clear ho3 hb3 g0 g1 g2 hX hsx hbel HNN HGN
          obtain ⟨q, q0, hq⟩ := HF.out.other
          have HQ := Lib.hid hq
          have s0 : 0 ≤ seat := HF.out.seat0
          have sn : seat < m := by have := HF.out.seatn; rw [HN2.out.len] at this; exact this
          have b0 : 0 ≤ bond := HF.out.bond0
          have HM := Lib.hid HF.out.mine
          clear hq
          go_wp2_with (go_at_call 13; refine HSX.out.mono ?_; rintro e w' ⟨rfl, rfl⟩)
          have HU2 := Lib.hid HU
          clear htt hnn hn' hln'
          go_loopw [13, 14, 15] (fun lo hi i wr => ∃ (j : Nat) (x y : Int) (M : Nat), j ≤ m ∧ i = .int .i64 j ∧ lo = .int .i64 x ∧ hi = .int .i64 y ∧ ((x = -1 ∧ y = -1) ∨ (q ≤ x ∧ x ≤ q + 1 ∧ q ≤ y ∧ y ≤ q + 1)) ∧ -1 ≤ x ∧ x ≤ 1125899906842624 ∧ -1 ≤ y ∧ y ≤ 1125899906842624 ∧ wr = w2.drewN M) (fun _ _ i _ => m - (intOf i).toNat)
          case atStart => exact ⟨0, -1, -1, 0, Nat.zero_le _, rfl, rfl, rfl, .inl ⟨rfl, rfl⟩, by omega, by omega, by omega, by omega, rfl⟩
          case round =>
            obtain ⟨j, x, y, M, hj, rfl, rfl, rfl, hxy, x1, x2, y1, y2, rfl⟩ := hrel
            have HXY := Lib.hid hxy
            clear hxy
            by_cases hltj : j < m
            · obtain ⟨bx, ox, vx, rfl, _, hcx, hvx⟩ := HX.out.get hltj
              obtain ⟨bn, on, vn, rfl, _, hcn, hvn⟩ := HN2.out.get hltj
              obtain ⟨bg, og, vg, hgB, _, hcg, hvg⟩ := HG2.out.get hltj
              have v1 := HF.out.nonneg vx (List.mem_of_getElem? hvx.out)
              have v2 := HF.out.nonneg' vn (List.mem_of_getElem? hvn.out)
              subst hgB
              obtain ⟨v1a, v1b⟩ := v1
              obtain ⟨v2a, v2b⟩ := v2
              by_cases hs : (j : Int) = seat
              · have hs' : ((j : Int) == seat) = true := by simpa using hs
                obtain ⟨m1, m2⟩ := HM.out vx vn (by rw [← hs, Int.toNat_natCast]; exact hvx.out) (by rw [← hs, Int.toNat_natCast]; exact hvn.out)
                have hd : decide (0 < vx - vn) = false := by simp; omega
                have hd2 : decide (bond < vn - vx) = false := by simp; omega
                have hd3 : decide (bond < -(vx - vn)) = false := by simp; omega
                clear hs
                go_wp2_with fail
                go_quiet (fail)
                go_wp2_with fail
                go_roundw
                case rel => exact ⟨j + 1, x, y, _, by omega, by go_num, rfl, rfl, HXY.out, x1, x2, y1, y2, rfl⟩
                case measure => simp [intOf]; omega
              · have hs' : ((j : Int) == seat) = false := by simpa using hs
                have ho := HQ.out j vx vn hvx.out hvn.out hs
                have HVG : Hid (gone.getD j false = vg) := by show _ = _; rw [List.getD_eq_getElem?_getD, hvg.out]; rfl
                rw [HVG.out] at ho
                clear hs
                rcases vg with _ | _
                · simp only [Bool.false_eq_true, if_false] at ho
                  have r1 : q ≤ vx - vn := by omega
                  have r2 : vx - vn ≤ q + 1 := by omega
                  have hd : decide (vx - vn < 0) = false := by simp; omega
                  clear ho
                  go_wp2_with fail
                  go_quiet (fail)
                  go_wp2_with fail
                  all_goals
                    have hxy := HXY.out
                    have hmx : (if y < vx - vn then vx - vn else y) = max y (vx - vn) := by split <;> omega
                    rw [hmx]
                    go_roundw
                    case rel => exact ⟨j + 1, _, _, _, by omega, by go_num, rfl, rfl, by omega, by omega, by omega, by omega, by omega, rfl⟩
                    case measure => simp [intOf]; omega
                · simp only [if_true] at ho
                  subst ho
                  have hd : decide (vx - vx < 0) = false := by simp
                  go_wp2_with fail
                  go_quiet (fail)
                  go_wp2_with fail
                  go_roundw
                  case rel => exact ⟨j + 1, x, y, _, by omega, by go_num, rfl, rfl, HXY.out, x1, x2, y1, y2, rfl⟩
                  case measure => simp [intOf]; omega
            · obtain rfl : j = m := by omega
              have h1 : y - x ≤ 1 := by have := HXY.out; omega
              go_wp2_with fail
              go_roundw
              case rel => exact ⟨k + 1, A3, c3, X, by omega, by go_num, rfl, HX.out.drewN _, fun x hx => by have := HF.out.nonneg x hx; omega, by show _ = _; rw [HF.out.sum]; exact HN.out, below_drewN HB3.out _⟩
              case measure => simp [intOf]; omega
        · rw [forfY_no hz] at hc10
          obtain ⟨C, hC⟩ : ∃ C, forfC N seat bond gone = C := ⟨_, rfl⟩
          rw [hC] at hc10 hz
          have HC10 := Lib.hid hc10
          have hne' : (C != 0) = true := by simpa using hz
          clear hc10 hC hz
          go_wp2_with fail
          go_region_held3 (fun w' => w'.cell? ⟨b, off + k * 3, none⟩ = some (.int .i64 seat) ∧ w'.cell? ⟨b, off + k * 3 + 1, none⟩ = some (.int .i64 bond) ∧ w'.cell? ⟨b, off + k * 3 + 2, none⟩ = some (.slice B m d)) (first | exact ⟨g0, g1, g2⟩ | exact ⟨(hb3.cell (p := ⟨b, off + k * 3, none⟩) hbs).trans g0, (hb3.cell (p := ⟨b, off + k * 3 + 1, none⟩) hbs).trans g1, (hb3.cell (p := ⟨b, off + k * 3 + 2, none⟩) hbs).trans g2⟩) (first | (go_at_call 10; refine HC10.out.mono ?_; rintro e w2 ⟨A3, n3, c3, rfl, ho3, hb3⟩))
          obtain rfl : n3 = 0 := by have := ho3.1; simpa using this.symm
          have HB3 := Lib.hid hb3
          clear ho3 hb3 g0 g1 g2
          go_wp2_with fail
          go_roundw
          case rel => exact ⟨k + 1, A2, c2, N, by omega, by go_num, rfl, HNN.out.drew.below HB3.out, hfN, HN, below_trans hbel.drew HB3.out hbel.size⟩
          case measure => simp [intOf]; omega
      · obtain rfl : k = ln := by omega
        go_wp2_with (go_at_call 7; refine (told7 _).mono ?_; rintro e w' ⟨rfl, hb⟩)
        go_ret
        exact ⟨rfl, below_trans hbel hb hbel.size⟩
set_option maxRecDepth 100000 in
theorem walk1 (A L : Option Addr) (n c ln lc : Nat) (pays : List Int) (us : List LossV) (w : World) (h : Sl (Value.int .i64) w A n pays) (hf : Fits pays) (hA : A = none → c = 0) (hu : Sln 3 LossV.cells w L ln us) (hok : ∀ u ∈ us, u.ok w) :
    Calls Try.prog 5 #[.slice A n c, .slice L ln lc] w fun e w' => e = .returned (.bool true) ∧ Below w.heap.size w w' := by
  have hm := h.max
  have hgm := hu.max
  by_cases hn : n ≤ 8
  · by_cases hln : ln ≤ 10
    · exact walk0 A L n c ln lc pays us w h hf hA hu hok hn hln
    · have hn' : decide (8 < (n : Int)) = false := by simp; omega
      have hln' : 10 < ln := by omega
      clear hn hln h hu hok
      go_enter Try.func5, Try.ntmps5
      go_wp2_with (go_at_call 7; refine (told7 _).mono ?_; rintro e w' ⟨rfl, hb⟩)
      go_ret
      exact ⟨rfl, hb⟩
  · have hn' : 8 < n := by omega
    clear hn h hu hok
    go_enter Try.func5, Try.ntmps5
    go_wp2_with (go_at_call 7; refine (told7 _).mono ?_; rintro e w' ⟨rfl, hb⟩)
    go_ret
    exact ⟨rfl, hb⟩

theorem wf_int {n : Int} (h : (Lit.int .i64 n).wf = true) : -9223372036854775808 ≤ n ∧ n ≤ 9223372036854775807 := by
  simp only [Lit.wf, Bool.and_eq_true, decide_eq_true_eq] at h
  exact h

theorem loss_cells {H : Type} {enc : TypeId × Value → H} {w : World} (n : Nat) (cs : List Value) (y : DataW H × List MemPlace) (hl : cs.length = 3) (ht : DataW.trod enc Try.prog w 0 (fun _ => true) true n 30 cs = some y) :
    ∃ u : LossV, cs = u.cells ∧ u.ok w := by
  obtain ⟨ys, n', _, _, _, hyl, hfd⟩ := DataW.trod_struct Try.underlying30 ht
  match cs, hl with
  | [c0, c1, c2], _ =>
    have e0 : DataW.trod enc Try.prog w 0 (fun _ => true) true n' 3 [c0] = ys[0]? := hfd 0 _ rfl
    have e1 : DataW.trod enc Try.prog w 0 (fun _ => true) true n' 3 [c1] = ys[1]? := hfd 1 _ rfl
    have e2 : DataW.trod enc Try.prog w 0 (fun _ => true) true n' 28 [c2] = ys[2]? := hfd 2 _ rfl
    have hyl' : ys.length = 3 := hyl
    match ys, hyl' with
    | [y0, y1, y2], _ =>
      obtain ⟨a, f0, _, wa⟩ := DataW.trod_int Try.underlying3 e0
      obtain ⟨b, f1, _, wb⟩ := DataW.trod_int Try.underlying3 e1
      simp at f0 f1
      subst f0 f1
      have e2' : DataW.trod enc Try.prog w 0 (fun _ => true) true n' 28 [c2] = some y2 := e2
      rcases Go.Deep.open_slice Try.underlying28 e2' with ⟨hcs, _⟩ | ⟨y, l, c, _, _, _, _, hcs, _⟩
      · simp at hcs
        subst hcs
        obtain ⟨gone, hg, hn⟩ := bools_in Try.underlying28 Try.underlying4 (by kernel_rfl) e2'
        exact ⟨⟨a, b, _, _, _, gone⟩, rfl, hg, wf_int wa, wf_int wb⟩
      · simp at hcs
        subst hcs
        obtain ⟨gone, hg, hn⟩ := bools_in Try.underlying28 Try.underlying4 (by kernel_rfl) e2'
        exact ⟨⟨a, b, _, _, _, gone⟩, rfl, hg, wf_int wa, wf_int wb⟩

theorem walk {H : Type} {enc : TypeId × Value → H} {base : Nat} {d : DataW H} {p : List MemPlace} (A : Option Addr) (n c : Nat) (xs : List Int) (v : Value) (w : World) (h : Sl (Value.int .i64) w A n xs) (hf : Fits xs) (hA : A = none → c = 0)
    (hv : Value.okWide Try.prog w .any base 37 v) (k : DataW.Trod enc Try.prog w 0 (fun _ => true) true 37 v d p) :
    Calls Try.prog 5 #[.slice A n c, v] w fun e w' => e = .returned (.bool true) ∧ Below w.heap.size w w' := by
  obtain ⟨L, ln, lc, rfl⟩ := okWide_slice Try.underlying37 hv
  obtain ⟨fuel, hfu⟩ := k
  obtain ⟨us, hu, hok, _⟩ := sliceN_in 3 LossV.cells (LossV.ok w) Try.underlying37 (by kernel_rfl) (by omega) loss_cells (by simpa [Value.cells] using hfu)
  exact walk1 A L n c ln lc xs us w h hf hA hu hok

set_option maxRecDepth 100000 in
theorem lifted (os : Os) (started : os.Started) (H : Type) (enc : TypeId × Value → H) :
    ReturnsInHanded {} Try.checked os 5 .any (Rows.closeKeepsSpec.pre6 enc Try.prog Try.f5 Rows.closeKeepsRow.domain false) (Rows.closeKeepsSpec.post enc Try.prog Try.f5 false true false false) := by
  refine returnsInHanded_of_change (C := Try.checked) own_knob started (by kernel_rfl) Try.func5
    (ChangeSpec.witness6 (enc := enc) (C := Try.checked) false ⟨#[], #[.slice none 0 0, .slice none 0 0], []⟩ 8 (by kernel_rfl) (by kernel_rfl) (by kernel_rfl) (by kernel_rfl)) ?_
  intro W base args ds gs before hval0 hW hcnd _
  have hval : ∀ (j : Nat) t v, Try.f5.params[j]? = some t → args[j]? = some v → Value.okWide Try.prog W .any base t v := hval0
  have hW' := hW
  obtain ⟨p, q, hA0, hV, rfl, hfz, hnd⟩ := hW
  have hA : DataW.TrodAll enc Try.prog W 0 (fun _ => true) true Try.f5.params.toList args.toList ds p := hA0
  rw [Try.params5] at hA hval
  obtain ⟨v0, vs0, d0, ds0, p0, q0, hargs, rfl, rfl, h0, r0⟩ := trodAll_cons hA
  obtain ⟨v1, vs1, d1, ds1, p1, q1, rfl, rfl, rfl, h1, r1⟩ := trodAll_cons r0
  obtain ⟨rfl, rfl, rfl⟩ := trodAll_nil r1
  obtain rfl : args = #[v0, v1] := by cases args; simp_all
  obtain ⟨rfl, rfl⟩ := trodVars_none hV
  obtain ⟨a0, len0, cap0, rfl⟩ := okWide_slice Try.underlying22 (hval 0 22 v0 rfl rfl)
  have k0 := h0
  have lt0 : ∀ x ∈ p0, x.block < W.heap.size := by obtain ⟨m, hm⟩ := k0; exact DataW.trod_lt m _ _ _ hm
  obtain ⟨xs0, sl0, wf0, nl0⟩ : ∃ xs : List Int, Sl (Value.int .i64) W a0 len0 xs ∧ (∀ n ∈ xs, (Lit.int .i64 n).wf = true) ∧ (a0 = none → cap0 = 0) := by
    obtain ⟨fuel, hf⟩ := h0
    exact ints_in Try.underlying22 Try.underlying3 (by kernel_rfl) (by simpa [Value.cells] using hf)
  have k1 := h1
  have lt1 : ∀ x ∈ p1, x.block < W.heap.size := by obtain ⟨m, hm⟩ := k1; exact DataW.trod_lt m _ _ _ hm
  have ok1 := hval 1 37 v1 rfl rfl
  clear hA0 hval0
  refine (walk a0 len0 cap0 xs0 v1 W sl0 (fits_wf wf0) nl0 ok1 k1).mono fun e W' ⟨he, bel⟩ => ?_
  subst he
  exact ⟨_, rfl, _, _, _, [], _, [], hW', trodAll_mk1 (shut_bool Try.underlying4 _), (trodAll_cons_mk (Below.trod laid_out (by kernel_rfl) (of_decide_eq_true (by kernel_rfl)) k0 bel lt0) (trodAll_cons_mk (Below.trod laid_out (by kernel_rfl) (of_decide_eq_true (by kernel_rfl)) k1 bel lt1) trodAll_mk0)), rfl, bel.frame _, fun h => by cases h⟩

theorem over : Rows.closeKeepsRow.holds Try.pinned (OpenSpec.ofChange Rows.closeKeepsSpec) :=
  OpenClaim.holds_of_wide 5 Try.f5 rfl rfl rfl rfl rfl rfl rfl ⟨rfl, rfl, rfl, rfl, rfl⟩ rfl rfl rfl rfl rfl (by kernel_rfl) Try.func5 (by kernel_rfl)
    (of_decide_eq_true (by kernel_rfl)) (by unfold Func.isWrapper; first | (rw [if_pos (by decide +kernel)]; kernel_rfl) | (rw [if_neg (by decide +kernel)]; exact ⟨rfl, rfl⟩))
    (fun os started H enc _ => lifted os started H enc)

/-- The statement. -/
theorem proved : Rows.CloseKeepsSaid := over
#print axioms proved
end Go.Proofs.Ytdicmdghmngfdaa.closeKeeps
