/- Contracts: the document's Others and Forfeit. -/
import Derived.Test.YtdicmdghmngfdaaG
namespace Go.Proofs.Ytdicmdghmngfdaa
open Go.RowKit

theorem wts_succ (seat : Int) (gone : List Bool) (k : Nat) : wts seat gone (k + 1) = wts seat gone k ++ [if ow seat gone k = true then 1 else 0] := by
  simp [wts, List.range_succ]
theorem wts_sum_bound (seat : Int) (gone : List Bool) (k : Nat) : 0 ≤ (wts seat gone k).sum ∧ (wts seat gone k).sum ≤ k := by
  induction k with
  | zero => simp [wts]
  | succ k ih => rw [wts_succ, List.sum_append]; split <;> simp <;> omega

theorem others20 (seat : Int) (B : Option Addr) (m d : Nat) (gone : List Bool) (w : World) (hg : Sl Value.bool w B m gone) :
    Calls Try.prog 20 #[.int .i64 seat, .slice B m d] w fun e w' => e = .returned (.int .i64 ((wts seat gone m).sum)) ∧ w = w' := by
  have hm := hg.max
  go_enter Try.func20, Try.ntmps20
  go_wp2_with fail
  go_loop [5, 6] (fun s i => ∃ k : Nat, k ≤ m ∧ i = .int .i64 k ∧ s = .int .i64 ((wts seat gone k).sum)) (fun _ i => m - (intOf i).toNat)
  case atStart => exact ⟨0, Nat.zero_le _, rfl, rfl⟩
  case round =>
    obtain ⟨k, hk, rfl, rfl⟩ := hrel
    obtain ⟨b1, b2⟩ := wts_sum_bound seat gone k
    have HS := Lib.hid (wts_succ seat gone k)
    by_cases hlt : k < m
    · obtain ⟨b, off, v, rfl, _, hck, hv⟩ := hg.get hlt
      have HV : Hid (gone.getD k false = v) := by show _ = _; rw [List.getD_eq_getElem?_getD, hv.out]; rfl
      have HG := Lib.hid hg
      clear hg
      by_cases he : (k : Int) = seat
      · have he' : ((k : Int) != seat) = false := by simpa using he
        have HO : Hid (ow seat gone k = false) := by show _ = _; rw [ow, he']; simp
        clear he
        go_wp2_with fail
        go_round
        case rel => exact ⟨k + 1, by omega, by go_num, by rw [HS.out, HO.out]; simp⟩
        case measure => simp [intOf]; omega
      · have he' : ((k : Int) != seat) = true := by simpa using he
        have HO : Hid (ow seat gone k = !v) := by show _ = _; rw [ow, he', HV.out]; simp
        clear he
        rcases v with _ | _
        · go_wp2_with fail
          go_round
          case rel => exact ⟨k + 1, by omega, by go_num, by rw [HS.out, HO.out]; simp⟩
          case measure => simp [intOf]; omega
        · go_wp2_with fail
          go_round
          case rel => exact ⟨k + 1, by omega, by go_num, by rw [HS.out, HO.out]; simp⟩
          case measure => simp [intOf]; omega
    · obtain rfl : k = m := by omega
      clear hg
      go_wp2_with fail
      go_ret
      exact ⟨rfl, rfl⟩

set_option maxHeartbeats 1000000 in
theorem forfeit11_no (A B : Option Addr) (n c m d : Nat) (pays : List Int) (seat bond : Int) (gone : List Bool) (w : World)
    (h : Sl (Value.int .i64) w A n pays) (hf : Fits pays) (hg : Sl Value.bool w B m gone) (h0 : forfC pays seat bond gone ≠ 0) :
    Calls Try.prog 11 #[.slice A n c, .int .i64 seat, .int .i64 bond, .slice B m d] w (FRes w 3 (forfC pays seat bond gone) []) := by
  have hl := h.len
  have hgl := hg.len
  have hm := h.max
  have hgm := hg.max
  by_cases c1 : n < 2
  · have E : Hid (forfC pays seat bond gone = 1) := by show _ = _; simp [forfC, hl, c1]
    clear hl hgl h0 h hg
    go_enter Try.func11, Try.ntmps11
    go_wp2_with fail
    go_ret2
    rw [E.out]
    exact FRes.no _ _ _ _ (Below.refl _ _)
  have c1' : decide ((n : Int) < 2) = false := by simp; omega
  by_cases c2 : 8 < n
  · have E : Hid (forfC pays seat bond gone = 1) := by show _ = _; simp [forfC, hl, c2]
    clear hl hgl h0 h hg
    go_enter Try.func11, Try.ntmps11
    go_wp2_with fail
    go_ret2
    rw [E.out]
    exact FRes.no _ _ _ _ (Below.refl _ _)
  by_cases c3 : m = n
  case neg =>
    have E : Hid (forfC pays seat bond gone = 3) := by show _ = _; simp [forfC, hl, hgl, c1, c2, c3]
    have c3' : ((m : Int) != (n : Int)) = true := by simp; omega
    clear hl hgl h0 h hg
    go_enter Try.func11, Try.ntmps11
    go_wp2_with fail
    go_ret2
    rw [E.out]
    exact FRes.no _ _ _ _ (Below.refl _ _)
  subst c3
  have c3' : ((m : Int) != (m : Int)) = false := by simp
  by_cases c4 : seat < 0
  · have E : Hid (forfC pays seat bond gone = 28) := by show _ = _; simp [forfC, hl, hgl, c1, c2, c4]
    clear hl hgl h0 h hg
    go_enter Try.func11, Try.ntmps11
    go_wp2_with fail
    go_ret2
    rw [E.out]
    exact FRes.no _ _ _ _ (Below.refl _ _)
  have c4' : decide (seat < 0) = false := by simpa using c4
  by_cases c5 : (m : Int) ≤ seat
  · have E : Hid (forfC pays seat bond gone = 28) := by show _ = _; simp [forfC, hl, hgl, c1, c2, c5]
    clear hl hgl h0 h hg
    go_enter Try.func11, Try.ntmps11
    go_wp2_with fail
    go_ret2
    rw [E.out]
    exact FRes.no _ _ _ _ (Below.refl _ _)
  rcases c7 : sumFrom 0 pays with _ | t
  · have E : Hid (forfC pays seat bond gone = 2) := by show _ = _; simp [forfC, hl, hgl, c1, c2, c4, c5, c7]
    have HC := sumR A m c pays _ h hf
    rw [c7, sumRes] at HC
    have HC' := Lib.hid HC
    clear hl hgl h0 h hg c7 HC
    go_enter Try.func11, Try.ntmps11
    go_wp2_with (go_at_call 13; refine HC'.out.mono ?_; rintro e w' ⟨rfl, rfl⟩)
    go_ret2
    rw [E.out]
    exact FRes.no _ _ _ _ (Below.refl _ _)
  by_cases c6 : rightB bond = false
  · have E : Hid (forfC pays seat bond gone = 2) := by show _ = _; simp [forfC, hl, hgl, c1, c2, c4, c5, c6]
    have HC := sumR A m c pays _ h hf
    rw [c7, sumRes] at HC
    have HC' := Lib.hid HC
    clear hl hgl h0 h hg c7 HC
    go_enter Try.func11, Try.ntmps11
    go_wp2_with (first | (go_at_call 15; refine (rightR _ _).mono ?_; rintro e w' ⟨rfl, rfl⟩) | (go_at_call 13; refine HC'.out.mono ?_; rintro e w' ⟨rfl, rfl⟩))
    go_ret2
    rw [E.out]
    exact FRes.no _ _ _ _ (Below.refl _ _)
  have c6' : rightB bond = true := by simpa using c6
  exact absurd (by simp [forfC, hl, hgl, c1, c2, c4, c5, c6', c7]) h0

theorem someOw_sum (seat : Int) (gone : List Bool) (n : Nat) (h : someOw seat gone n = false) : (wts seat gone n).sum = 0 := by
  have : ∀ x ∈ wts seat gone n, x = 0 := by
    intro x hx
    simp only [wts, List.mem_map] at hx
    obtain ⟨i, hi, rfl⟩ := hx
    simp only [someOw, List.any_eq_false] at h
    have := h i hi
    simp at this
    simp [this]
  generalize wts seat gone n = l at this
  induction l with
  | nil => rfl
  | cons x l ih => rw [List.sum_cons, this x (by simp), ih (fun y hy => this y (by simp [hy]))]; rfl
theorem quos_sum (t a : Int) (ws : List Int) (h : ∀ x ∈ ws, x = 0 ∨ x = 1) : (quos t a ws).sum = t / a * ws.sum := by
  induction ws with
  | nil => simp [quos]
  | cons x l ih =>
    have := ih (fun y hy => h y (by simp [hy]))
    simp only [quos, List.map_cons, List.sum_cons] at this ⊢
    rw [this, Int.mul_add]
    rcases h x (by simp) with rfl | rfl <;> simp
theorem wts_01 (seat : Int) (gone : List Bool) (n : Nat) : ∀ x ∈ wts seat gone n, x = 0 ∨ x = 1 := by
  intro x hx
  simp only [wts, List.mem_map] at hx
  obtain ⟨i, _, rfl⟩ := hx
  split <;> simp
theorem wts_at (seat : Int) (gone : List Bool) (n k : Nat) (hk : k < n) : (wts seat gone n)[k]? = some (if ow seat gone k = true then 1 else 0) := by
  simp [wts, hk]
theorem set_same {xs : List Int} {k : Nat} {y : Int} (h : xs[k]? = some y) : xs.set k y = xs := by
  apply List.ext_getElem?
  intro i
  rw [List.getElem?_set]
  split
  · rename_i hi; subst hi
    split
    · exact h.symm
    · rename_i hn; exact absurd (List.getElem?_eq_some_iff.1 h).1 hn
  · rfl
theorem zip_set (L P : List Int) (k : Nat) (x y : Int) (h : L[k]? = some x) : List.zipWith (· + ·) L (P.set k y) = (List.zipWith (· + ·) L P).set k (x + y) := by
  apply List.ext_getElem?
  intro i
  rw [List.getElem?_zipWith, List.getElem?_set, List.getElem?_set, List.getElem?_zipWith]
  by_cases hi : k = i
  · subst hi
    rw [h]
    have hx := (List.getElem?_eq_some_iff.1 h).1
    by_cases hp : k < P.length
    · simp [hp, hx, List.length_zipWith]; omega
    · simp [hp, List.length_zipWith]; omega
  · simp [hi]

theorem pack (s : Int) (gone : List Bool) (m : Nat) (S l : Int) (hS : (wts s gone m).sum = S) (hSp : 0 < S) (l1 : 0 ≤ l) :
    ∃ (q : Int) (ws P0 Q : List Int), l / S = q ∧ 0 ≤ q ∧ q ≤ l ∧ q * S ≤ l ∧ 0 ≤ q * S ∧ Hid (ws.length = m) ∧ Hid (∀ k, k < m → ws[k]? = some (if ow s gone k = true then 1 else 0)) ∧
      Hid (Q.length = m) ∧ Hid (∀ k, k < m → Q[k]? = some (if ow s gone k = true then q else 0)) ∧ Hid (splitS l (wts s gone m) = P0) ∧ Hid (giveOne (l - q * S) ws Q = P0) := by
  have q1 : 0 ≤ l / S := Int.ediv_nonneg l1 (by omega)
  refine ⟨l / S, wts s gone m, _, quos l S (wts s gone m), rfl, q1, Int.ediv_le_self _ l1, Int.ediv_mul_le _ (by omega), Int.mul_nonneg q1 (by omega), wts_length _ _ _, fun k hk => wts_at _ _ _ _ hk, by show _ = _; rw [quos, List.length_map, wts_length], fun k hk => ?_, rfl, ?_⟩
  · rw [quos, List.getElem?_map, wts_at _ _ _ _ hk]
    split <;> simp
  · show _ = splitS _ _
    unfold splitS
    rw [hS, quos_sum _ _ _ (wts_01 s gone m), hS]

set_option maxHeartbeats 4000000 in
theorem forfeit11_yes (A B : Option Addr) (n c m d : Nat) (pays : List Int) (seat bond : Int) (gone : List Bool) (w : World)
    (h : Sl (Value.int .i64) w A n pays) (hf : Fits pays) (hg : Sl Value.bool w B m gone) (h0 : forfC pays seat bond gone = 0) :
    Calls Try.prog 11 #[.slice A n c, .int .i64 seat, .int .i64 bond, .slice B m d] w (FRes w 3 0 (forfY pays seat bond gone)) := by
  have hl := h.len
  have hgl := hg.len
  have hmx := h.max
  have hq := h0
  unfold forfC at hq
  by_cases c1 : n < 2 ∨ 8 < n
  · rw [if_pos (by omega)] at hq; cases hq
  rw [if_neg (by omega)] at hq
  by_cases c3 : m = n
  case neg => rw [if_pos (by omega)] at hq; cases hq
  rw [if_neg (by omega)] at hq
  subst c3
  by_cases c4 : seat < 0 ∨ (m : Int) ≤ seat
  · rw [if_pos (by omega)] at hq; cases hq
  rw [if_neg (by omega)] at hq
  by_cases c6 : rightB bond = true
  case neg => rw [if_pos (by simpa using c6)] at hq; cases hq
  rw [if_neg (by simp [c6])] at hq
  rcases c7 : sumFrom 0 pays with _ | t
  · rw [if_pos c7] at hq; cases hq
  clear hq
  obtain ⟨s, rfl⟩ := Int.eq_ofNat_of_zero_le (show 0 ≤ seat by omega)
  have d1 : ¬ m < 2 := by omega
  have d2 : m ≤ 8 := by omega
  have d3 : s < m := by omega
  clear c1 c4
  have c1' : decide ((m : Int) < 2) = false := by simp; omega
  have h8 : decide (8 < (m : Int)) = false := by simp; omega
  have c3' : ((m : Int) != (m : Int)) = false := by simp
  have c4' : decide ((s : Int) < 0) = false := by simp
  have HC := sumR A m c pays _ h hf
  rw [c7, sumRes] at HC
  have HC' := Lib.hid HC
  have HR : Hid (∀ x ∈ pays, 0 ≤ x ∧ x ≤ 1125899906842624) := sumFrom_right c7
  have H0 := Lib.hid h0
  have HL := Lib.hid hl
  have HA := Lib.hid h
  have HG := Lib.hid hg
  have hA : A = none → c = 0 := by
    intro hA; subst hA
    obtain ⟨b, off, hb, _⟩ := h.at_ (by omega)
    cases hb
  have HQ := Lib.hid hA
  clear hl hgl h0 h hg c7 HC hA
  go_enter Try.func11, Try.ntmps11
  go_wp2_with (first | (go_at_call 15; refine (rightR _ _).mono ?_; rintro e w' ⟨rfl, rfl⟩) | (go_at_call 13; refine HC'.out.mono ?_; rintro e w' ⟨rfl, rfl⟩) | (at_builtin; refine wpList_app tyInts rfl _ _ rfl (oneInt .i64) w.heap.size (.slice (some ⟨w.heap.size, 0, none⟩) 0 0) 0 [] rfl (own_lit _ w _ #[] 3 0 [] (Nat.le_refl _) rfl (by decide) rfl) A m c pays rfl (HA.out.alloc _) HQ.out (by unfold maxLen; omega) (by omega) (by simp) ?_; intro A1 k1 w1 hown1 hgrow1 hat1))
  have hb1 : Below w.heap.size w w1 := ((Below.refl w.heap.size w).alloc (Nat.le_refl _) _).grown hgrow1 (by simp) (fun k hk => by simp [Value.ownBlock] at hk; omega)
  have hco := others20 s B m d gone w1 (HG.out.below hb1)
  simp only [Nat.zero_add, List.nil_append] at hown1 ⊢
  obtain ⟨g1, rfl, g1a, g1b⟩ := own_some hown1 (by omega)
  have HO1 := Lib.hid hown1
  have hs1 := hb1.size
  obtain ⟨x, hx⟩ : ∃ x, pays[s]? = some x := ⟨_, List.getElem?_eq_getElem (by rw [HL.out]; exact d3)⟩
  obtain ⟨x1, x2⟩ := HR.out x (List.mem_of_getElem? hx)
  have hcx : w1.cell? ⟨g1, s, none⟩ = some (.int .i64 x) := by rw [hown1.cellAt s (by omega), List.getElem?_map, hx]; rfl
  have hfx := hown1.frozenAt s
  obtain ⟨b, off, x', rfl, hbs, hck, hx'⟩ := (HA.out.below hb1).get d3
  obtain rfl : x = x' := by have := hx.symm.trans hx'.out; simpa using this
  have HX := Lib.hid hx
  have HCO := Lib.hid hco
  clear hat1 hgrow1 hown1 hco hx hx'
  obtain ⟨S, hS⟩ : ∃ S, (wts s gone m).sum = S := ⟨_, rfl⟩
  obtain ⟨S1, S2⟩ := wts_sum_bound s gone m
  rw [hS] at HCO S1 S2
  rcases hso : someOw s gone m with _ | _
  · have HY : Hid (forfY pays s bond gone = pays) := by
      show _ = _
      unfold forfY
      rw [if_neg (by rw [H0.out]; simp), HL.out, if_pos hso]
    have hS0 : S = 0 := by rw [← hS]; exact someOw_sum _ _ _ hso
    subst hS0
    clear hso hS
    go_wp2_with (go_at_call 20; refine HCO.out.mono ?_; rintro e w' ⟨rfl, rfl⟩)
    go_ret2
    exact ⟨_, _, _, rfl, by rw [HY.out]; exact HO1.out, hb1⟩
  · have hSp := wts_sum s gone m hso
    rw [hS] at hSp
    have hS0 : (S == 0) = false := by simp; omega
    have hr2 := rightB_true.1 c6
    obtain ⟨r1, r2⟩ := hr2
    have hY : forfY pays s bond gone = List.zipWith (· + ·) (pays.set s (x - min bond x)) (splitS (min bond x) (wts s gone m)) := by
      unfold forfY lessS
      rw [if_neg (by rw [H0.out]; simp), HL.out, if_neg (by rw [hso]; simp), Int.toNat_natCast, List.getD_eq_getElem?_getD, HX.out]; rfl
    obtain ⟨L0, hL0⟩ : ∃ L0, pays.set s (x - min bond x) = L0 := ⟨_, rfl⟩
    rw [hL0] at hY
    have HL1 : Hid (L0.length = m) := by rw [← hL0]; show _ = _; rw [List.length_set]; exact HL.out
    have HLB1 : Hid (∀ y ∈ L0, 0 ≤ y ∧ y ≤ 1125899906842624) := by
      rw [← hL0]
      intro y hy
      rcases List.mem_or_eq_of_mem_set hy with hy | rfl
      · exact HR.out y hy
      · omega
    have key : (bond ≤ x ∧ min bond x = bond ∧ x - min bond x = x - bond) ∨ (x < bond ∧ min bond x = x ∧ x - min bond x = 0) := by omega
    have HSS := Lib.hid hS
    clear hso hS
    have lb : 0 ≤ min bond x ∧ min bond x ≤ 1125899906842624 := by omega
    rcases key with ⟨hcA, hl, hl2⟩ | ⟨hcB, hl, hl2⟩
    all_goals
      rw [hl] at lb
      rw [hl2] at hL0
      rw [hl] at hY
      have HLE := Lib.hid hL0
      have HY := Lib.hid hY
      clear hl hl2 hL0 hY
      go_wp2_with (go_at_call 20; refine HCO.out.mono ?_; rintro e w' ⟨rfl, rfl⟩)
      have HO4 : Hid (∀ v0 : Int, pays.set s v0 = L0 → (w1.setCell ⟨g1, s, none⟩ (.int .i64 v0)).ownsRow w.heap.size 3 1 (.slice (some ⟨g1, 0, none⟩) m k1) m (L0.map (Value.int .i64))) := fun v0 hv => by
        rw [← hv, List.map_set]; exact (HO1.out.stored s _).1
      have HO6 : Hid (∀ v0 : Int, Below w.heap.size w (w1.setCell ⟨g1, s, none⟩ (.int .i64 v0))) := fun v0 => hb1.setCell (by dsimp only; omega) _
      have HST := HO4.out _ HLE.out
      obtain ⟨l1, l2⟩ := lb
      obtain ⟨q, ws, P0, Q, hq, q1, q2, q3, q4, HWL, HWA, HQL, HQA, HP, HG0⟩ := pack s gone m S _ HSS.out (by omega) l1
      unfold Hid at HY
      rw [HP.out] at HY
      have HYZ := Lib.hid HY
      clear HY HP HLE hcx hck hfx
      have HBL := Lib.hid (HO6.out)
      go_loopw [14] (fun i wr => ∃ (k : Nat), k ≤ m ∧ i = .int .i64 k ∧ wr.ownsRow w.heap.size 3 1 (.slice (some ⟨g1, 0, none⟩) m k1) m ((zipTo L0 Q k).map (Value.int .i64)) ∧ Below w.heap.size w wr) (fun i _ => m - (intOf i).toNat)
      case atStart => exact ⟨0, Nat.zero_le _, rfl, by rw [zipTo_zero]; exact HST, HBL.out _⟩
      case round =>
        clear HST
        obtain ⟨k, hk, rfl, hown, hbel⟩ := hrel
        by_cases hlt : k < m
        · obtain ⟨b', off', v, rfl, _, hck, hv⟩ := (HG.out.below hbel).get hlt
          have HV : Hid (gone.getD k false = v) := by show _ = _; rw [List.getD_eq_getElem?_getD, hv.out]; rfl
          obtain ⟨y, hy⟩ : ∃ y, L0[k]? = some y := ⟨_, List.getElem?_eq_getElem (by rw [HL1.out]; exact hlt)⟩
          obtain ⟨y1, y2⟩ := HLB1.out y (List.mem_of_getElem? hy)
          have hz := zipTo_at L0 Q k y hy (by rw [HL1.out, HQL.out])
          have hn := zipTo_succ L0 Q k y _ hy (HQA.out k hlt) (by rw [HL1.out, HQL.out])
          have hcell : wr.cell? ⟨g1, k, none⟩ = some (.int .i64 y) := by rw [hown.cellAt k (by omega), List.getElem?_map, hz]; rfl
          have hfro := hown.frozenAt k
          have HOWN := Lib.hid hown
          by_cases he : (k : Int) = s
          · have he' : ((k : Int) != s) = false := by simpa using he
            have ho : ow s gone k = false := by rw [ow, he']; simp
            rw [ho, if_neg (by simp), Int.add_zero, set_same hz] at hn
            have HN := Lib.hid hn
            clear he hn hy hz hown ho
            go_wp2_with fail
            go_roundw
            case rel => exact ⟨k + 1, by omega, by go_num, by rw [HN.out]; exact HOWN.out, hbel⟩
            case measure => simp [intOf]; omega
          · have he' : ((k : Int) != s) = true := by simpa using he
            have ho : ow s gone k = !v := by rw [ow, he', HV.out]; simp
            rcases v with _ | _
            · rw [ho, if_pos (by simp)] at hn
              have HN := Lib.hid hn
              clear he hn hy hz hown ho
              go_wp2_with fail
              go_region
              go_wp2_with fail
              go_roundw
              case rel => exact ⟨k + 1, by omega, by go_num, by rw [HN.out, List.map_set]; exact (HOWN.out.stored k _).1, (hbel.setCell (by dsimp only; omega) _).drew⟩
              case measure => simp [intOf]; omega
            · rw [ho, if_neg (by simp), Int.add_zero, set_same hz] at hn
              have HN := Lib.hid hn
              clear he hn hy hz hown ho
              go_wp2_with fail
              go_roundw
              case rel => exact ⟨k + 1, by omega, by go_num, by rw [HN.out]; exact HOWN.out, hbel⟩
              case measure => simp [intOf]; omega
        · obtain rfl : k = m := by omega
          rw [zipTo_full L0 Q k HL1.out HQL.out] at hown
          have HOWN := Lib.hid hown
          have HQB : Hid (∀ x ∈ Q.drop 0, 0 ≤ x ∧ x ≤ 1125899906842624) := fun x hx => by
            rw [List.drop_zero] at hx
            obtain ⟨i, hi, rfl⟩ := List.getElem_of_mem hx
            have := HQA.out i (by rw [← HQL.out]; exact hi)
            rw [List.getElem?_eq_getElem hi] at this
            injection this with this
            rw [this]
            split <;> omega
          clear hown
          go_wp2_with fail
          go_loopw [15, 16] (fun s' i wr => ∃ (j : Nat) (l' : Int) (ps : List Int), j ≤ k ∧ i = .int .i64 j ∧ s' = .int .i64 l' ∧ 0 ≤ l' ∧ l' ≤ 1125899906842624 ∧ Hid (ps.length = k) ∧ Hid (∀ x ∈ ps.drop j, 0 ≤ x ∧ x ≤ 1125899906842624) ∧ Hid (ps.take j ++ giveOne l' (ws.drop j) (ps.drop j) = P0) ∧ wr.ownsRow w.heap.size 3 1 (.slice (some ⟨g1, 0, none⟩) k k1) k ((List.zipWith (· + ·) L0 ps).map (Value.int .i64)) ∧ Below w.heap.size w wr) (fun _ i _ => k - (intOf i).toNat)
          case atStart => exact ⟨0, _, Q, Nat.zero_le _, rfl, rfl, by omega, by omega, HQL, HQB, by simpa [Hid] using HG0.out, HOWN.out, hbel⟩
          case round =>
            clear hbel
            obtain ⟨j, l', ps, hj, rfl, rfl, e1, e2, hpl, hpb, hpg, hown, hbel⟩ := hrel
            have HOWN2 := Lib.hid hown
            clear HOWN
            by_cases hlt2 : j < k
            · by_cases hl0 : l' = 0
              · subst hl0
                have HF : Hid (ps = P0) := by
                  have := hpg.out; rw [giveOne_zero, List.take_append_drop] at this; exact this
                clear hown
                go_wp2_with fail
                go_ret2
                exact ⟨_, _, _, rfl, by rw [HYZ.out, ← HF.out]; exact HOWN2.out, hbel⟩
              · have hl0' : 0 < l' := by omega
                obtain ⟨b', off', v, rfl, _, hck, hv⟩ := (HG.out.below hbel).get hlt2
                have HV : Hid (gone.getD j false = v) := by show _ = _; rw [List.getD_eq_getElem?_getD, hv.out]; rfl
                obtain ⟨y, hy⟩ : ∃ y, L0[j]? = some y := ⟨_, List.getElem?_eq_getElem (by rw [HL1.out]; exact hlt2)⟩
                obtain ⟨y1, y2⟩ := HLB1.out y (List.mem_of_getElem? hy)
                obtain ⟨p, hp⟩ : ∃ p, ps[j]? = some p := ⟨_, List.getElem?_eq_getElem (by rw [hpl.out]; exact hlt2)⟩
                have HE : Hid (ps.drop j = p :: ps.drop (j + 1)) := drop_cons hp
                obtain ⟨p1, p2⟩ := hpb.out p (by rw [HE.out]; simp)
                have HD : Hid (ws.drop j = (if ow s gone j = true then 1 else 0) :: ws.drop (j + 1)) := drop_cons (HWA.out j hlt2)
                have hcell : wr.cell? ⟨g1, j, none⟩ = some (.int .i64 (y + p)) := by rw [hown.cellAt j (by omega), List.getElem?_map, List.getElem?_zipWith, hy, hp]; rfl
                have hfro := hown.frozenAt j
                have HPP := Lib.hid hp
                have HYP := Lib.hid hy
                have no : ow s gone j = false → Hid (ps.take (j + 1) ++ giveOne l' (ws.drop (j + 1)) (ps.drop (j + 1)) = P0) := fun ho => by
                  have := hpg.out
                  rw [HD.out, HE.out, ho, if_neg (by simp), giveOne, if_neg hl0, if_pos rfl] at this
                  rw [take_snoc HPP.out]; simpa [Hid] using this
                have HB' : Hid (∀ x ∈ ps.drop (j + 1), 0 ≤ x ∧ x ≤ 1125899906842624) := fun x hx => hpb.out x (by rw [HE.out]; simp [hx])
                by_cases he : (j : Int) = s
                · have he' : ((j : Int) != s) = false := by simpa using he
                  have HN := no (by rw [ow, he']; simp)
                  clear he hown hp hy no hl0
                  go_wp2_with fail
                  go_roundw
                  case rel => exact ⟨j + 1, l', ps, by omega, by go_num, rfl, e1, e2, hpl, HB', HN, HOWN2.out, hbel⟩
                  case measure => simp [intOf]; omega
                · have he' : ((j : Int) != s) = true := by simpa using he
                  rcases v with _ | _
                  · have ho : ow s gone j = true := by rw [ow, he', HV.out]; simp
                    have HN : Hid ((ps.set j (p + 1)).take (j + 1) ++ giveOne (l' - 1) (ws.drop (j + 1)) ((ps.set j (p + 1)).drop (j + 1)) = P0) := by
                      have := hpg.out
                      rw [HD.out, HE.out, ho, if_pos rfl, giveOne, if_neg hl0, if_neg (by omega)] at this
                      have e1 : (ps.set j (p + 1))[j]? = some (p + 1) := by simp [List.getElem?_set, hpl.out, hlt2]
                      rw [take_snoc e1, List.drop_set_of_lt (by omega), List.take_set_of_le (by omega)]
                      simpa [Hid] using this
                    have HB2 : Hid (∀ x ∈ (ps.set j (p + 1)).drop (j + 1), 0 ≤ x ∧ x ≤ 1125899906842624) := by rw [List.drop_set_of_lt (by omega)]; exact HB'
                    have HL' : Hid ((ps.set j (p + 1)).length = k) := by show _ = _; rw [List.length_set]; exact hpl.out
                    have HZ : Hid (List.zipWith (· + ·) L0 (ps.set j (p + 1)) = (List.zipWith (· + ·) L0 ps).set j (y + p + 1)) := by show _ = _; rw [zip_set L0 ps j y (p + 1) hy, Int.add_assoc]
                    clear he hown hp hy no hl0 ho
                    go_wp2_with fail
                    go_roundw
                    case rel => exact ⟨j + 1, l' - 1, ps.set j (p + 1), by omega, by go_num, by go_num, by omega, by omega, HL', HB2, HN, by rw [HZ.out, List.map_set]; exact (HOWN2.out.stored j _).1, hbel.setCell (by dsimp only; omega) _⟩
                    case measure => simp [intOf]; omega
                  · have HN := no (by rw [ow, he', HV.out]; simp)
                    clear he hown hp hy no hl0
                    go_wp2_with fail
                    go_roundw
                    case rel => exact ⟨j + 1, l', ps, by omega, by go_num, rfl, e1, e2, hpl, HB', HN, HOWN2.out, hbel⟩
                    case measure => simp [intOf]; omega
            · obtain rfl : j = k := by omega
              have HF : Hid (ps = P0) := by
                have := hpg.out
                rw [List.take_of_length_le (by rw [hpl.out]; omega), List.drop_of_length_le (l := ps) (by rw [hpl.out]; omega)] at this
                have e : ∀ a b, giveOne a b [] = [] := fun a b => by cases b <;> rfl
                rw [e, List.append_nil] at this
                exact this
              clear hown
              go_wp2_with fail
              go_ret2
              exact ⟨_, _, _, rfl, by rw [HYZ.out, ← HF.out]; exact HOWN2.out, hbel⟩
end Go.Proofs.Ytdicmdghmngfdaa
