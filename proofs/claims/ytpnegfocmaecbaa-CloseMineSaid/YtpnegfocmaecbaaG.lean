/- Contracts: told; the document's Adds. -/
import Derived.Test.YtpnegfocmaecbaaF
namespace Go.Proofs.Ytpnegfocmaecbaa
open Go.RowKit
set_option maxRecDepth 100000

theorem fits_lit (l : List Int) (h : l.all (fun x => decide (-9223372036854775808 ≤ x) && decide (x ≤ 9223372036854775807)) = true) : Fits l := by
  intro x hx
  have := List.all_eq_true.1 h x hx
  simpa using this

/-- One call of Forfeit at literals. -/
theorem forf_lit (w : World) (pays : List Int) (cs ds : Array Value) (seat bond : Int) (gone : List Bool) (g : Nat) (hg : w.heap.size = g) (hp : cs.toList = pays.map (Value.int .i64)) (hq : ds.toList = gone.map Value.bool)
    (hl : pays.length = 3) (hl' : gone.length = 3) (hf : Fits pays) (h0 : forfC pays seat bond gone = 0) :
    Calls Try.prog 12 #[.slice (some ⟨g, 0, none⟩) 3 3, .int .i64 seat, .int .i64 bond, .slice (some ⟨g + 1, 0, none⟩) 3 3] ((w.alloc (.cells cs 3)).alloc (.cells ds 4)) fun e w' =>
      ∃ A n c, e = .returned (.tuple #[.slice A n c, .int .i64 0]) ∧ Sl (Value.int .i64) w' A n (forfY pays seat bond gone) ∧ Below w.heap.size w w' := by
  subst hg
  refine (forfeit10_yes _ _ 3 3 3 3 pays seat bond gone _ ((Sl.lit _ w cs 3 3 pays hl (by decide) hp).alloc _) hf (Sl.litAt _ _ _ ds 4 3 gone (by simp) hl' (by decide) hq) h0).mono ?_
  rintro e w1 ⟨A1, n1, c1, rfl, ho1, hb1⟩
  exact ⟨A1, n1, c1, rfl, Sl.of_row ho1, below_trans (((Below.refl w.heap.size w).alloc (Nat.le_refl _) _).alloc (by simp) _) hb1 (by simp; omega)⟩
theorem adds_lit (w : World) (pays : List Int) (cs : Array Value) (pot seats : Int) (g : Nat) (hg : w.heap.size = g) (hp : cs.toList = pays.map (Value.int .i64)) (hl : pays.length = 2) (hf : Fits pays) :
    Calls Try.prog 13 #[.int .i64 pot, .int .i64 seats, .slice (some ⟨g, 0, none⟩) 2 2] (w.alloc (.cells cs 3)) fun e w' => e = .returned (.int .i64 (addsS pot seats pays)) ∧ w.alloc (.cells cs 3) = w' := by
  subst hg
  exact adds8 pot seats _ 2 2 pays _ (Sl.lit _ w cs 3 2 pays hl (by decide) hp) hf
theorem alike_lit (w : World) (A : Option Addr) (n c : Nat) (xs ys : List Int) (cs : Array Value) (g : Nat) (hg : w.heap.size = g) (hx : Sl (Value.int .i64) w A n xs) (hp : cs.toList = ys.map (Value.int .i64)) (hl : ys.length = 3) :
    Calls Try.prog 14 #[.slice A n c, .slice (some ⟨g, 0, none⟩) 3 3] (w.alloc (.cells cs 3)) fun e w' => e = .returned (.bool (xs == ys)) ∧ ∃ N, w' = (w.alloc (.cells cs 3)).drewN N := by
  subst hg
  exact alikeR _ _ _ _ _ _ xs ys _ (hx.alloc _) (Sl.lit _ w cs 3 3 ys hl (by decide) hp)

theorem below_drewN {B : Nat} {a w : World} (h : Below B a w) (n : Nat) : Below B a (w.drewN n) := ⟨h.os, h.tape, h.output, h.size, h.block⟩

set_option maxHeartbeats 1000000 in
theorem told7 (w : World) : Calls Try.prog 5 #[] w fun e w' => e = .returned (.bool true) ∧ Below w.heap.size w w' := by
  go_enter Try.func5, Try.ntmps5
  go_wp2_with fail
  have h1 := forf_lit w [10, 0, 5] #[.int .i64 10, .int .i64 0, .int .i64 5] #[.bool false, .bool false, .bool false] 0 4 [false, false, false] w.heap.size rfl rfl rfl rfl rfl (fits_lit _ rfl) (by decide)
  with_reducible refine h1.mono ?_
  clear h1
  rintro e w1 ⟨A1, n1, c1, rfl, ho1, hb1⟩
  have HO1 := Lib.hid ho1
  have HB1 := Lib.hid hb1
  clear ho1 hb1
  go_wp2_with fail
  have h1 := forf_lit w1 [10, 0, 5] #[.int .i64 10, .int .i64 0, .int .i64 5] #[.bool false, .bool true, .bool false] 0 4 [false, true, false] w1.heap.size rfl rfl rfl rfl rfl (fits_lit _ rfl) (by decide)
  with_reducible refine h1.mono ?_
  clear h1
  rintro e w2 ⟨A2, n2, c2, rfl, ho2, hb2⟩
  have HO2 := Lib.hid ho2
  have HB2 := Lib.hid hb2
  clear ho2 hb2
  go_wp2_with fail
  have h1 := adds_lit w2 [4, 6] #[.int .i64 4, .int .i64 6] 10 2 w2.heap.size rfl rfl rfl (fits_lit _ rfl)
  rw [show addsS 10 2 [4, 6] = 0 from by decide] at h1
  with_reducible refine h1.mono ?_
  clear h1
  rintro e w' ⟨rfl, rfl⟩
  go_wp2_with fail
  have h1 := adds_lit (w2.alloc (.cells #[.int .i64 4, .int .i64 6] 3)) [4, 5] #[.int .i64 4, .int .i64 5] 10 2 (w2.heap.size + 1) (by simp) rfl rfl (fits_lit _ rfl)
  rw [show addsS 10 2 [4, 5] = 22 from by decide] at h1
  with_reducible refine h1.mono ?_
  clear h1
  rintro e w' ⟨rfl, rfl⟩
  have HB3 : Hid (Below w.heap.size w ((w2.alloc (.cells #[.int .i64 4, .int .i64 6] 3)).alloc (.cells #[.int .i64 4, .int .i64 5] 3))) :=
    ((below_trans HB1.out HB2.out HB1.out.size).alloc (Nat.le_trans HB1.out.size HB2.out.size) _).alloc (by have := Nat.le_trans HB1.out.size HB2.out.size; simp; omega) _
  have HO3 : Hid (Sl (Value.int .i64) ((w2.alloc (.cells #[.int .i64 4, .int .i64 6] 3)).alloc (.cells #[.int .i64 4, .int .i64 5] 3)) A1 n1 (forfY [10, 0, 5] 0 4 [false, false, false])) := ((HO1.out.below HB2.out).alloc _).alloc _
  have HO4 : Hid (Sl (Value.int .i64) ((w2.alloc (.cells #[.int .i64 4, .int .i64 6] 3)).alloc (.cells #[.int .i64 4, .int .i64 5] 3)) A2 n2 (forfY [10, 0, 5] 0 4 [false, true, false])) := (HO2.out.alloc _).alloc _
  obtain ⟨w3, hw3⟩ : ∃ w3, (w2.alloc (.cells #[.int .i64 4, .int .i64 6] 3)).alloc (.cells #[.int .i64 4, .int .i64 5] 3) = w3 := ⟨_, rfl⟩
  rw [hw3] at HB3 HO3 HO4 ⊢
  clear hw3 HO1 HO2 HB1 HB2
  go_wp2_with fail
  have h1 := alike_lit w3 A1 n1 c1 _ [6, 2, 7] #[.int .i64 6, .int .i64 2, .int .i64 7] w3.heap.size rfl HO3.out rfl rfl
  rw [show (forfY [10, 0, 5] 0 4 [false, false, false] == [6, 2, 7]) = true from by decide] at h1
  with_reducible refine h1.mono ?_
  clear h1
  rintro e w' ⟨rfl, N1, rfl⟩
  obtain ⟨w4, hw4⟩ : ∃ w4, (w3.alloc (.cells #[.int .i64 6, .int .i64 2, .int .i64 7] 3)).drewN N1 = w4 := ⟨_, rfl⟩
  have HB4 : Hid (Below w.heap.size w w4) := by rw [← hw4]; exact below_drewN (HB3.out.alloc HB3.out.size _) _
  have HO5 : Hid (Sl (Value.int .i64) w4 A2 n2 (forfY [10, 0, 5] 0 4 [false, true, false])) := by rw [← hw4]; exact (HO4.out.alloc _).drewN _
  rw [hw4]
  clear hw4 HB3 HO3 HO4
  go_wp2_with fail
  have h1 := alike_lit w4 A2 n2 c2 _ [6, 0, 9] #[.int .i64 6, .int .i64 0, .int .i64 9] w4.heap.size rfl HO5.out rfl rfl
  rw [show (forfY [10, 0, 5] 0 4 [false, true, false] == [6, 0, 9]) = true from by decide] at h1
  with_reducible refine h1.mono ?_
  clear h1
  rintro e w' ⟨rfl, N2, rfl⟩
  go_wp2_with fail
  go_ret
  exact ⟨rfl, below_drewN (HB4.out.alloc HB4.out.size _) _⟩

theorem sumFrom_eq (xs : List Int) (s : Int) (hs : 0 ≤ s ∧ s ≤ 1125899906842624) (h : xs.all rightB = true) : sumFrom s xs = if s + xs.sum ≤ 1125899906842624 then some (s + xs.sum) else none := by
  induction xs generalizing s with
  | nil => simp [sumFrom, hs.2]
  | cons x l ih =>
    simp only [List.all_cons, Bool.and_eq_true] at h
    have hx := rightB_true.1 h.1
    have hb := sum_bound l h.2
    rw [sumFrom, List.sum_cons]
    by_cases ho : addOk s x = true
    · have hh := addOk_true.1 ho
      rw [if_pos ho, ih _ ⟨by omega, by omega⟩ h.2, Int.add_assoc]
    · have hn : ¬ (s + x ≤ 1125899906842624) := fun hc => ho (addOk_true.2 ⟨hs, hx, by omega, hc⟩)
      rw [if_neg ho, if_neg (by omega)]

set_option maxHeartbeats 400000 in
theorem adds9 (pot seats : Int) (A : Option Addr) (n c : Nat) (xs : List Int) (w : World) (h : Sl (Value.int .i64) w A n xs) (hf : Fits xs) :
    Calls Try.prog 9 #[.int .i64 pot, .int .i64 seats, .slice A n c] w fun e w' => e = .returned (.int .i64 (addsS pot seats xs)) ∧ w = w' := by
  have hl := h.len
  have hm := h.max
  by_cases h1 : seats < 2
  · have e0 : addsS pot seats xs = 1 := by simp [addsS, h1]
    have E := Lib.hid e0
    clear e0 hl
    go_enter Try.func9, Try.ntmps9
    go_wp2_with fail
    go_ret
    exact ⟨by rw [E.out]; rfl, rfl⟩
  have h1' : decide (seats < 2) = false := by simpa using h1
  by_cases h2 : 8 < seats
  · have e0 : addsS pot seats xs = 1 := by simp [addsS, h2]
    have E := Lib.hid e0
    clear e0 hl
    go_enter Try.func9, Try.ntmps9
    go_wp2_with fail
    go_ret
    exact ⟨by rw [E.out]; rfl, rfl⟩
  by_cases h3 : rightB pot = false
  · have e0 : addsS pot seats xs = 2 := by simp [addsS, h1, h2, h3]
    have E := Lib.hid e0
    clear e0 hl
    go_enter Try.func9, Try.ntmps9
    go_wp2_with (go_at_call 23; refine (rightR _ _).mono ?_; rintro e w' ⟨rfl, rfl⟩)
    go_ret
    exact ⟨by rw [E.out]; rfl, rfl⟩
  have h3' : rightB pot = true := by simpa using h3
  clear h3
  by_cases h4 : (n : Int) = seats
  · subst h4
    have h4' : ((n : Int) != (n : Int)) = false := by simp
    have hs := sumR A n c xs w h hf
    have HS := Lib.hid hs
    clear hs
    go_enter Try.func9, Try.ntmps9
    go_wp2_with (go_at_call 23; refine (rightR _ _).mono ?_; rintro e w' ⟨rfl, rfl⟩)
    go_loop [7] (fun i => ∃ k : Nat, k ≤ n ∧ i = .int .i64 k ∧ (xs.take k).all rightB = true) (fun i => n - (intOf i).toNat)
    case atStart => exact ⟨0, Nat.zero_le _, rfl, rfl⟩
    case round =>
      obtain ⟨k, hk, rfl, ha⟩ := hrel
      by_cases hlt : k < n
      · obtain ⟨b, off, v, rfl, _, hck, hv⟩ := h.get hlt
        obtain ⟨v1, v2⟩ := hf.at_ hv
        have HR : Hid (xs.take (k + 1) = xs.take k ++ [v]) := take_snoc hv.out
        by_cases hr : rightB v = true
        · have HA := Lib.hid ha
          clear ha h
          go_wp2_with (go_at_call 23; refine (rightR _ _).mono ?_; rintro e w' ⟨rfl, rfl⟩)
          go_round
          case rel => exact ⟨k + 1, by omega, by go_num, by rw [HR.out]; simp [HA.out, hr]⟩
          case measure => simp [intOf]; omega
        · have hr1 : rightB v = false := by simpa using hr
          have e0 : addsS pot n xs = 2 := by
            have hf := all_false_of hv.out hr1
            simp [addsS, h3', hl, hf]; omega
          have E := Lib.hid e0
          clear hr e0 ha h hl
          go_wp2_with (go_at_call 23; refine (rightR _ _).mono ?_; rintro e w' ⟨rfl, rfl⟩)
          go_ret
          exact ⟨by rw [E.out]; rfl, rfl⟩
      · obtain rfl : k = n := by omega
        have ht : xs.take k = xs := List.take_of_length_le (by omega)
        rw [ht] at ha
        clear ht
        have hse := sumFrom_eq xs 0 (by omega) ha
        rw [Int.zero_add] at hse
        have hp := rightB_true.1 h3'
        by_cases hov : xs.sum ≤ 1125899906842624
        · rw [if_pos hov] at hse
          rw [hse, sumRes] at HS
          have HS' := HS
          by_cases hs : xs.sum = pot
          · have e0 : addsS pot k xs = 0 := by simp [addsS, h3', hl, ha, hs]; omega
            have E := Lib.hid e0
            have hs' : (xs.sum != pot) = false := by simpa using hs
            clear e0 ha h hl hs hse
            go_wp2_with (go_at_call 11; refine HS'.out.mono ?_; rintro e w' ⟨rfl, rfl⟩)
            go_ret
            exact ⟨by rw [E.out]; rfl, rfl⟩
          · have e0 : addsS pot k xs = 22 := by simp [addsS, h3', hl, ha, hs]; omega
            have E := Lib.hid e0
            have hs' : (xs.sum != pot) = true := by simpa using hs
            clear e0 ha h hl hs hse
            go_wp2_with (go_at_call 11; refine HS'.out.mono ?_; rintro e w' ⟨rfl, rfl⟩)
            go_ret
            exact ⟨by rw [E.out]; rfl, rfl⟩
        · rw [if_neg hov] at hse
          rw [hse, sumRes] at HS
          have HS' := HS
          have hs : ¬ xs.sum = pot := by omega
          have e0 : addsS pot k xs = 22 := by simp [addsS, h3', hl, ha, hs]; omega
          have E := Lib.hid e0
          clear e0 ha h hl hs hse
          go_wp2_with (go_at_call 11; refine HS'.out.mono ?_; rintro e w' ⟨rfl, rfl⟩)
          go_ret
          exact ⟨by rw [E.out]; rfl, rfl⟩
  · have e0 : addsS pot seats xs = 3 := by simp [addsS, h1, h2, h3', hl, h4]
    have E := Lib.hid e0
    have h4' : ((n : Int) != seats) = true := by simpa using h4
    clear e0 hl
    go_enter Try.func9, Try.ntmps9
    go_wp2_with (go_at_call 23; refine (rightR _ _).mono ?_; rintro e w' ⟨rfl, rfl⟩)
    go_ret
    exact ⟨by rw [E.out]; rfl, rfl⟩
end Go.Proofs.Ytpnegfocmaecbaa
