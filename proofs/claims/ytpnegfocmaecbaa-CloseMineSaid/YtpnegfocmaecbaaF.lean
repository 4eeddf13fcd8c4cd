/- Contract: close.Forfeit. -/
import Derived.Test.YtpnegfocmaecbaaE
namespace Go.Proofs.Ytpnegfocmaecbaa
open Go.RowKit
set_option maxRecDepth 100000

set_option maxHeartbeats 1000000 in
theorem forfeit10_no (A B : Option Addr) (n c m d : Nat) (pays : List Int) (seat bond : Int) (gone : List Bool) (w : World)
    (h : Sl (Value.int .i64) w A n pays) (hf : Fits pays) (hg : Sl Value.bool w B m gone) (h0 : forfC pays seat bond gone ≠ 0) :
    Calls Try.prog 12 #[.slice A n c, .int .i64 seat, .int .i64 bond, .slice B m d] w (FRes w 3 (forfC pays seat bond gone) []) := by
  have hl := h.len
  have hgl := hg.len
  have hm := h.max
  have hgm := hg.max
  have hbel : Below w.heap.size w ((w.alloc (.cells #[.int .i64 seat] 3)).alloc (.cells #[.slice B m d] 25)) := ((Below.refl _ _).alloc (Nat.le_refl _) _).alloc (by simp) _
  have HB := Lib.hid hbel
  by_cases c1 : n < 2
  · have E : Hid (forfC pays seat bond gone = 1) := by show _ = _; simp [forfC, hl, c1]
    clear hl hgl hbel h0 h hg
    go_enter Try.func12, Try.ntmps12
    go_wp2_with fail
    go_ret2
    rw [E.out]
    exact FRes.no _ _ _ _ HB.out
  have c1' : decide ((n : Int) < 2) = false := by simp; omega
  by_cases c2 : 8 < n
  · have E : Hid (forfC pays seat bond gone = 1) := by show _ = _; simp [forfC, hl, c2]
    clear hl hgl hbel h0 h hg
    go_enter Try.func12, Try.ntmps12
    go_wp2_with fail
    go_ret2
    rw [E.out]
    exact FRes.no _ _ _ _ HB.out
  by_cases c3 : m = n
  case neg =>
    have E : Hid (forfC pays seat bond gone = 3) := by show _ = _; simp [forfC, hl, hgl, c1, c2, c3]
    have c3' : ((m : Int) != (n : Int)) = true := by simp; omega
    clear hl hgl hbel h0 h hg
    go_enter Try.func12, Try.ntmps12
    go_wp2_with fail
    go_ret2
    rw [E.out]
    exact FRes.no _ _ _ _ HB.out
  subst c3
  have c3' : ((m : Int) != (m : Int)) = false := by simp
  by_cases c4 : seat < 0
  · have E : Hid (forfC pays seat bond gone = 28) := by show _ = _; simp [forfC, hl, hgl, c1, c2, c4]
    clear hl hgl hbel h0 h hg
    go_enter Try.func12, Try.ntmps12
    go_wp2_with fail
    go_ret2
    rw [E.out]
    exact FRes.no _ _ _ _ HB.out
  have c4' : decide (seat < 0) = false := by simpa using c4
  by_cases c5 : (m : Int) ≤ seat
  · have E : Hid (forfC pays seat bond gone = 28) := by show _ = _; simp [forfC, hl, hgl, c1, c2, c5]
    clear hl hgl hbel h0 h hg
    go_enter Try.func12, Try.ntmps12
    go_wp2_with fail
    go_ret2
    rw [E.out]
    exact FRes.no _ _ _ _ HB.out
  by_cases c6 : rightB bond = false
  · have E : Hid (forfC pays seat bond gone = 2) := by show _ = _; simp [forfC, hl, hgl, c1, c2, c4, c5, c6]
    clear hl hgl hbel h0 h hg
    go_enter Try.func12, Try.ntmps12
    go_wp2_with (go_at_call 26; refine (rightC _ _).mono ?_; rintro e w' ⟨rfl, rfl⟩)
    go_ret2
    rw [E.out]
    exact FRes.no _ _ _ _ HB.out
  have c6' : rightB bond = true := by simpa using c6
  clear c6
  rcases c7 : sumFrom 0 pays with _ | t
  · have E : Hid (forfC pays seat bond gone = 2) := by show _ = _; simp [forfC, hl, hgl, c1, c2, c4, c5, c6', c7]
    have HC := sumC A m c pays _ (h.below hbel) hf
    rw [c7, sumRes] at HC
    have HC' := Lib.hid HC
    clear hl hgl hbel h0 h hg c7 HC
    go_enter Try.func12, Try.ntmps12
    go_wp2_with (first | (go_at_call 26; refine (rightC _ _).mono ?_; rintro e w' ⟨rfl, rfl⟩) | (go_at_call 27; refine HC'.out.mono ?_; rintro e w' ⟨rfl, rfl⟩))
    go_ret2
    rw [E.out]
    exact FRes.no _ _ _ _ HB.out
  · exact absurd (by simp [forfC, hl, hgl, c1, c2, c4, c5, c6', c7]) h0

set_option maxHeartbeats 2000000 in
theorem forfeit10_yes (A B : Option Addr) (n c m d : Nat) (pays : List Int) (seat bond : Int) (gone : List Bool) (w : World)
    (h : Sl (Value.int .i64) w A n pays) (hf : Fits pays) (hg : Sl Value.bool w B m gone) (h0 : forfC pays seat bond gone = 0) :
    Calls Try.prog 12 #[.slice A n c, .int .i64 seat, .int .i64 bond, .slice B m d] w (FRes w 3 0 (forfY pays seat bond gone)) := by
  have hl := h.len
  have hgl := hg.len
  have hmx := h.max
  have hbel : Below w.heap.size w ((w.alloc (.cells #[.int .i64 seat] 3)).alloc (.cells #[.slice B m d] 25)) := ((Below.refl _ _).alloc (Nat.le_refl _) _).alloc (by simp) _
  have hq := h0
  unfold forfC at hq
  by_cases c1 : n < 2 ∨ 8 < n
  · rw [if_pos (by omega)] at hq; cases hq
  rw [if_neg (by omega)] at hq
  by_cases c3 : m = n
  case neg => rw [if_pos (by omega)] at hq; cases hq
  rw [if_neg (by omega)] at hq
  subst c3
  by_cases c4 : seat < 0 ∨ (m : Int) ≤ seat
  · rw [if_pos (by omega)] at hq; cases hq
  rw [if_neg (by omega)] at hq
  by_cases c6 : rightB bond = true
  case neg => rw [if_pos (by simpa using c6)] at hq; cases hq
  rw [if_neg (by simp [c6])] at hq
  rcases c7 : sumFrom 0 pays with _ | t
  · rw [if_pos c7] at hq; cases hq
  clear hq
  obtain ⟨s, rfl⟩ := Int.eq_ofNat_of_zero_le (show 0 ≤ seat by omega)
  have d1 : ¬ m < 2 := by omega
  have d2 : m ≤ 8 := by omega
  have d3 : s < m := by omega
  clear c1 c4
  have c1' : decide ((m : Int) < 2) = false := by simp; omega
  have c3' : ((m : Int) != (m : Int)) = false := by simp
  have c4' : decide ((s : Int) < 0) = false := by simp
  have HC := sumC A m c pays _ (h.below hbel) hf
  rw [c7, sumRes] at HC
  have HC' := Lib.hid HC
  have HR : Hid (∀ x ∈ pays, 0 ≤ x ∧ x ≤ 1125899906842624) := sumFrom_right c7
  have H0 := Lib.hid h0
  have HL := Lib.hid hl
  have HB := Lib.hid hbel
  have hw0 : ((w.alloc (.cells #[.int .i64 s] 3)).alloc (.cells #[.slice B m d] 25)).heap.size = w.heap.size + 2 := by simp
  have HW0 := Lib.hid hw0
  have HA := h.below hbel
  have HG := hg.below hbel
  have hA : A = none → c = 0 := by
    intro hA; subst hA
    obtain ⟨b, off, hb, _⟩ := h.at_ (by omega)
    cases hb
  have e1 : ((w.alloc (.cells #[.int .i64 s] 3)).alloc (.cells #[.slice B m d] 25)).cell? ⟨w.heap.size, 0, none⟩ = some (.int .i64 s) := by go_simp
  have e2 : ((w.alloc (.cells #[.int .i64 s] 3)).alloc (.cells #[.slice B m d] 25)).cell? ⟨w.heap.size + 1, 0, none⟩ = some (.slice B m d) := by go_simp
  have E1 := Lib.hid e1
  have E2 := Lib.hid e2
  have HAA := Lib.hid HA
  have HGG := Lib.hid HG
  have HQ := Lib.hid hA
  have HRT := Lib.hid c6
  clear hl hgl hbel h0 h hg c7 HC hw0 e1 e2 HA HG hA
  go_enter Try.func12, Try.ntmps12
  go_wp2_with (first | (go_at_call 26; refine (rightC _ _).mono ?_; rintro e w' ⟨rfl, rfl⟩) | (go_at_call 27; refine HC'.out.mono ?_; rintro e w' ⟨rfl, rfl⟩) | (at_builtin; refine wpList_app tyInts rfl _ _ rfl (oneInt .i64) (w.heap.size + 2) (.slice none 0 0) 0 [] rfl (World.ownsRow_nil _ _ _ _) A m c pays rfl HAA.out HQ.out (by unfold maxLen; omega) (by omega) (by simp) ?_; intro A1 k1 w1 hown1 hgrow1 hat1))
  have hb1 := (HB.out.grown (B := w.heap.size) hgrow1 (by rw [HW0.out]; omega) (fun k hk => by cases hk))
  have hb1' : Below (w.heap.size + 2) ((w.alloc (.cells #[.int .i64 s] 3)).alloc (.cells #[.slice B m d] 25)) w1 := (Below.refl _ _).grown hgrow1 (by rw [HW0.out]; omega) (fun k hk => by cases hk)
  have hs1 : w.heap.size + 2 ≤ w1.heap.size := by have := hgrow1.size; rw [HW0.out] at this; omega
  have hcw := weights17 m s ⟨w.heap.size, 0, none⟩ ⟨w.heap.size + 1, 0, none⟩ B d gone w1 d2 (HGG.out.below (by rw [HW0.out]; exact hb1')) ((hb1'.cell (p := ⟨w.heap.size, 0, none⟩) (by dsimp only; omega)).trans E1.out) ((hb1'.cell (p := ⟨w.heap.size + 1, 0, none⟩) (by dsimp only; omega)).trans E2.out) (by dsimp only; omega) (by dsimp only; omega)
  clear hat1
  simp only [Nat.zero_add, List.nil_append] at hown1 ⊢
  have HCW := Lib.hid hcw
  have HB1 := Lib.hid hb1
  have HB1' := Lib.hid hb1'
  have HO1 := Lib.hid hown1
  have hE1 : w1.cell? ⟨w.heap.size, 0, none⟩ = some (.int .i64 s) := (hb1'.cell (p := ⟨w.heap.size, 0, none⟩) (by dsimp only; omega)).trans E1.out
  obtain ⟨g1, rfl, g1a, g1b⟩ := own_some hown1 (by omega)
  have HE1 := Lib.hid hE1
  clear hb1 hb1' hcw hgrow1 hown1 hE1
  refine HCW.out.mono ?_
  rintro e w2 ⟨g2, rfl, hown2, hb2⟩
  have HO2 := Lib.hid hown2
  have HB2 := Lib.hid hb2
  have ho12 := own_below HO1.out hb2
  have hE2 : w2.cell? ⟨w.heap.size, 0, none⟩ = some (.int .i64 s) := (hb2.cell (p := ⟨w.heap.size, 0, none⟩) (by dsimp only; omega)).trans HE1.out
  have hs2 := hb2.size
  obtain ⟨x, hx⟩ : ∃ x, pays[s]? = some x := ⟨_, List.getElem?_eq_getElem (by rw [HL.out]; exact d3)⟩
  obtain ⟨x1, x2⟩ := HR.out x (List.mem_of_getElem? hx)
  have hcx : w2.cell? ⟨g1, s, none⟩ = some (.int .i64 x) := by rw [ho12.cellAt s (by omega), List.getElem?_map, hx]; rfl
  have HX := Lib.hid hx
  have HO12 := Lib.hid ho12
  clear hown2 hb2 ho12 hx
  rcases hso : someOw s gone m with _ | _
  · have HY : Hid (forfY pays s bond gone = pays) := by
      show _ = _
      unfold forfY
      rw [if_neg (by rw [H0.out]; simp), HL.out, if_pos hso]
    clear hso
    go_wp2_with fail
    go_ret2
    exact ⟨_, _, _, rfl, by rw [HY.out]; exact own_mono HO12.out (by omega), below_trans HB1.out HB2.out (by omega)⟩
  · have HS := Lib.hid hso
    have hr2 := rightB_true.1 c6
    obtain ⟨r1, r2⟩ := hr2
    have hmin : lessS pays s bond = min bond x := by
      unfold lessS
      rw [List.getD_eq_getElem?_getD, Int.toNat_natCast, HX.out]; rfl
    have HM := Lib.hid hmin
    have hY : forfY pays s bond gone = List.zipWith (· + ·) (pays.set s (x - min bond x)) (splitS (min bond x) (wts s gone m)) := by
      unfold forfY
      rw [if_neg (by rw [H0.out]; simp), HL.out, if_neg (by rw [hso]; simp), hmin, Int.toNat_natCast, List.getD_eq_getElem?_getD, HX.out]; rfl
    have HY := Lib.hid hY
    have hcs := split19 (min bond x) (some ⟨g2, 0, none⟩) m m (wts s gone m) w2 (by omega) d2 (rightB_true.2 (by omega)) (Sl.of_own HO2.out) (fun x hx => by have := wts_bound s gone m x hx; omega) (wts_sum s gone m hso)
    have hpb := splitS_bound (min bond x) (wts s gone m) (by omega) (fun x hx => (wts_bound s gone m x hx).1) (wts_sum s gone m hso)
    have hpl : (splitS (min bond x) (wts s gone m)).length = m := by rw [splitS_length, wts_length]
    have HL0 : Hid ((pays.set s (x - min bond x)).length = m) := by show _ = _; rw [List.length_set]; exact HL.out
    have HLB : Hid (∀ y ∈ pays.set s (x - min bond x), 0 ≤ y ∧ y ≤ 1125899906842624) := by
      intro y hy
      rcases List.mem_or_eq_of_mem_set hy with hy | rfl
      · exact HR.out y hy
      · omega
    obtain ⟨L0, hL0⟩ : ∃ L0, pays.set s (x - min bond x) = L0 := ⟨_, rfl⟩
    obtain ⟨P0, hP0⟩ : ∃ P0, splitS (min bond x) (wts s gone m) = P0 := ⟨_, rfl⟩
    have HYZ : Hid (forfY pays s bond gone = List.zipWith (· + ·) L0 P0) := by show _ = _; rw [hY, hL0, hP0]
    rw [hP0] at hcs hpb hpl
    have HL1 : Hid (L0.length = m) := by rw [← hL0]; exact HL0
    have HLB1 : Hid (∀ y ∈ L0, 0 ≤ y ∧ y ≤ 1125899906842624) := by rw [← hL0]; exact HLB
    have HPB : Hid (∀ y ∈ P0, 0 ≤ y ∧ y ≤ 1125899906842625) := fun y hy => by have := hpb y hy; omega
    have HPL := Lib.hid hpl
    have key : (bond ≤ x ∧ min bond x = bond ∧ x - min bond x = x - bond) ∨ (x < bond ∧ min bond x = x ∧ x - min bond x = 0) := by omega
    clear hso hmin hY hpb hpl HL0 HLB HY HM hP0
    rcases key with ⟨hc, hl, hl2⟩ | ⟨hc, hl, hl2⟩
    all_goals
      rw [hl] at hcs
      rw [hl2] at hL0
      have HLE := Lib.hid hL0
      have HCS := Lib.hid hcs
      clear hl hcs hl2 hL0
      go_wp2_with fail
      refine HCS.out.mono ?_
      rintro e w3 ⟨g3, rfl, hown3, hb3⟩
      have HO3 := Lib.hid hown3
      have hs3 := hb3.size
      have hE3 : w3.cell? ⟨w.heap.size, 0, none⟩ = some (.int .i64 s) := (hb3.cell (p := ⟨w.heap.size, 0, none⟩) (by dsimp only; omega)).trans hE2
      have ho13 := own_below HO12.out hb3
      have hcx3 : w3.cell? ⟨g1, s, none⟩ = some (.int .i64 x) := (hb3.cell (p := ⟨g1, s, none⟩) (by dsimp only; omega)).trans hcx
      have hfx3 := ho13.frozenAt s
      obtain ⟨g3a, g3b⟩ := hown3.lt g3 rfl
      have HB3 := Lib.hid hb3
      have HO13 := Lib.hid ho13
      clear hown3 hb3 hE2 hcx ho13
      go_wp2_with fail
      have h8 : decide (8 < (m : Int)) = false := by simp; omega
      simp only [h8]
      have HO4 : Hid (∀ v0 : Int, pays.set s v0 = L0 → (w3.setCell ⟨g1, s, none⟩ (.int .i64 v0)).ownsRow (w.heap.size + 2) 3 1 (.slice (some ⟨g1, 0, none⟩) m k1) m (L0.map (Value.int .i64))) := fun v0 hv => by
        rw [← hv, List.map_set]; exact (HO13.out.stored s _).1
      have HO5 : Hid (∀ v0 : Int, Sl (Value.int .i64) (w3.setCell ⟨g1, s, none⟩ (.int .i64 v0)) (some ⟨g3, 0, none⟩) m P0) := fun v0 =>
        Sl.of_own (HO3.out.kept ((HO13.out.stored s (.int .i64 v0)).2) (.inr (by simp [Value.ownBlock]; omega)))
      have HO6 : Hid (∀ v0 : Int, Below w.heap.size w (w3.setCell ⟨g1, s, none⟩ (.int .i64 v0))) := fun v0 => (below_trans (below_trans HB1.out HB2.out (by omega)) HB3.out (by omega)).setCell (by dsimp only; omega) _
      clear hE3 hcx3 hfx3
      go_loopw [88] (fun i wr => ∃ (k : Nat), k ≤ m ∧ i = .int .i64 k ∧ wr.ownsRow (w.heap.size + 2) 3 1 (.slice (some ⟨g1, 0, none⟩) m k1) m ((zipTo L0 P0 k).map (Value.int .i64)) ∧ Hid (Sl (Value.int .i64) wr (some ⟨g3, 0, none⟩) m P0) ∧ Below w.heap.size w wr) (fun i _ => m - (intOf i).toNat)
      case atStart => exact ⟨0, Nat.zero_le _, rfl, by rw [zipTo_zero]; exact HO4.out _ HLE.out, HO5.out _, HO6.out _⟩
      case round =>
        obtain ⟨k, hk, rfl, hown, hsl, hbel⟩ := hrel
        by_cases hlt : k < m
        · obtain ⟨b, off, q, hb, _, hck, hq⟩ := hsl.out.get hlt
          obtain ⟨rfl, rfl⟩ : b = g3 ∧ off = 0 := by simpa [eq_comm] using hb
          obtain ⟨q1, q2⟩ := HPB.out q (List.mem_of_getElem? hq.out)
          obtain ⟨y, hy⟩ : ∃ y, L0[k]? = some y := ⟨_, List.getElem?_eq_getElem (by rw [HL1.out]; exact hlt)⟩
          obtain ⟨y1, y2⟩ := HLB1.out y (List.mem_of_getElem? hy)
          have hz := zipTo_at L0 P0 k y hy (by rw [HL1.out, HPL.out])
          have HN : Hid (zipTo L0 P0 (k + 1) = (zipTo L0 P0 k).set k (y + q)) := zipTo_succ L0 P0 k y q hy hq.out (by rw [HL1.out, HPL.out])
          have hcell : wr.cell? ⟨g1, k, none⟩ = some (.int .i64 y) := by rw [hown.cellAt k (by omega), List.getElem?_map, hz]; rfl
          have hfro := hown.frozenAt k
          have HOWN := Lib.hid hown
          rw [Nat.zero_add] at hck
          clear hb hy hz hown
          go_wp2_with fail
          go_roundw
          case rel => exact ⟨k + 1, by omega, by go_num, by rw [HN.out, List.map_set]; exact (HOWN.out.stored k _).1, hsl.out.setCell _ (fun ad had => by injection had with had; subst had; dsimp only; omega), hbel.setCell (by dsimp only; omega) _⟩
          case measure => simp [intOf]; omega
        · obtain rfl : k = m := by omega
          have HN : Hid (zipTo L0 P0 k = List.zipWith (· + ·) L0 P0) := zipTo_full L0 P0 k HL1.out HPL.out
          have HOWN := Lib.hid hown
          clear hown
          go_wp2_with fail
          go_ret2
          exact ⟨_, _, _, rfl, by rw [HYZ.out, ← HN.out]; exact own_mono HOWN.out (by omega), hbel⟩
end Go.Proofs.Ytpnegfocmaecbaa
