/- Plain facts and the first contracts: coin.Right, baizeref03.Right, both Adds. -/
import Derived.Test.YtpnegfocmaecbaaBase
import Derived.WalkKit
import Derived.WalkSpells
import Derived.Lib.Hide
import Derived.Deep.QuietTactic
import Derived.BigQuiet
namespace Go.Proofs.Ytpnegfocmaecbaa
open Go.RowKit

def rightB (n : Int) : Bool := decide (0 ≤ n) && decide (n ≤ 1125899906842624)

theorem rightB_true {n : Int} : rightB n = true ↔ 0 ≤ n ∧ n ≤ 1125899906842624 := by simp [rightB]
theorem rightB_false {n : Int} : rightB n = false ↔ ¬ (0 ≤ n ∧ n ≤ 1125899906842624) := by
  rw [← rightB_true]; simp

theorem rightC (n : Int) (w : World) : Calls Try.prog 26 #[.int .i64 n] w fun e w' => e = .returned (.bool (rightB n)) ∧ w = w' := by
  unfold rightB
  by_cases h0 : 0 ≤ n
  · by_cases h1 : n ≤ 1125899906842624
    all_goals
      go_enter Try.func26, Try.ntmps26
      go_wp2
      go_ret
      exact ⟨by simp [*], rfl⟩
  · have h1 : decide (0 ≤ n) = false := by simpa using h0
    go_enter Try.func26, Try.ntmps26
    go_wp2
    go_ret
    exact ⟨by simp [*], rfl⟩

theorem rightR (n : Int) (w : World) : Calls Try.prog 23 #[.int .i64 n] w fun e w' => e = .returned (.bool (rightB n)) ∧ w = w' := by
  unfold rightB
  by_cases h0 : 0 ≤ n
  · by_cases h1 : n ≤ 1125899906842624
    all_goals
      go_enter Try.func23, Try.ntmps23
      go_wp2
      go_ret
      exact ⟨by simp [*], rfl⟩
  · have h1 : decide (0 ≤ n) = false := by simpa using h0
    go_enter Try.func23, Try.ntmps23
    go_wp2
    go_ret
    exact ⟨by simp [*], rfl⟩

def addsS (pot seats : Int) (xs : List Int) : Int :=
  if seats < 2 ∨ 8 < seats then 1 else if rightB pot = false then 2 else if (xs.length : Int) ≠ seats then 3
  else if xs.all rightB = false then 2 else if xs.sum ≠ pot then 22 else 0

theorem sum_bound (xs : List Int) (h : xs.all rightB = true) : 0 ≤ xs.sum ∧ xs.sum ≤ xs.length * 1125899906842624 := by
  induction xs with
  | nil => simp
  | cons x l ih =>
    simp only [List.all_cons, Bool.and_eq_true, rightB_true] at h
    have := ih h.2
    simp only [List.sum_cons, List.length_cons]
    omega
theorem all_false_of {xs : List Int} {k : Nat} {v : Int} (h : xs[k]? = some v) (hr : rightB v = false) : xs.all rightB = false := by
  rw [List.all_eq_false]
  exact ⟨v, List.mem_of_getElem? h, by simp [hr]⟩

set_option maxHeartbeats 400000 in
theorem adds8 (pot seats : Int) (A : Option Addr) (n c : Nat) (xs : List Int) (w : World) (h : Sl (Value.int .i64) w A n xs) (hf : Fits xs) :
    Calls Try.prog 13 #[.int .i64 pot, .int .i64 seats, .slice A n c] w fun e w' => e = .returned (.int .i64 (addsS pot seats xs)) ∧ w = w' := by
  have hl := h.len
  have hm := h.max
  by_cases h1 : seats < 2
  · have e0 : addsS pot seats xs = 1 := by simp [addsS, h1]
    have E := Lib.hid e0
    clear e0 hl
    go_enter Try.func13, Try.ntmps13
    go_wp2_with fail
    go_ret
    exact ⟨by rw [E.out]; rfl, rfl⟩
  have h1' : decide (seats < 2) = false := by simpa using h1
  by_cases h2 : 8 < seats
  · have e0 : addsS pot seats xs = 1 := by simp [addsS, h2]
    have E := Lib.hid e0
    clear e0 hl
    go_enter Try.func13, Try.ntmps13
    go_wp2_with fail
    go_ret
    exact ⟨by rw [E.out]; rfl, rfl⟩
  by_cases h3 : rightB pot = false
  · have e0 : addsS pot seats xs = 2 := by simp [addsS, h1, h2, h3]
    have E := Lib.hid e0
    clear e0 hl
    go_enter Try.func13, Try.ntmps13
    go_wp2_with (go_at_call 26; refine (rightC _ _).mono ?_; rintro e w' ⟨rfl, rfl⟩)
    go_ret
    exact ⟨by rw [E.out]; rfl, rfl⟩
  have h3' : rightB pot = true := by simpa using h3
  clear h3
  by_cases h4 : (n : Int) = seats
  · subst h4
    have h4' : ((n : Int) != (n : Int)) = false := by simp
    go_enter Try.func13, Try.ntmps13
    go_wp2_with (go_at_call 26; refine (rightC _ _).mono ?_; rintro e w' ⟨rfl, rfl⟩)
    go_loop [7, 25] (fun s i => ∃ k : Nat, k ≤ n ∧ i = .int .i64 k ∧ s = .int .i64 ((xs.take k).sum) ∧ (xs.take k).all rightB = true) (fun _ i => n - (intOf i).toNat)
    case atStart => exact ⟨0, Nat.zero_le _, rfl, rfl, rfl⟩
    case round =>
      obtain ⟨k, hk, rfl, rfl, ha⟩ := hrel
      have hb := sum_bound _ ha
      have hb2 : (xs.take k).length ≤ k := List.length_take_le _ _
      by_cases hlt : k < n
      · obtain ⟨b, off, v, rfl, _, hck, hv⟩ := h.get hlt
        obtain ⟨v1, v2⟩ := hf.at_ hv
        have HR : Hid (xs.take (k + 1) = xs.take k ++ [v]) := take_snoc hv.out
        by_cases hr : rightB v = true
        · have hr2 := rightB_true.1 hr
          have HA := Lib.hid ha
          clear ha h
          go_wp2_with (go_at_call 26; refine (rightC _ _).mono ?_; rintro e w' ⟨rfl, rfl⟩)
          go_round
          case rel => exact ⟨k + 1, by omega, by go_num, by rw [HR.out]; simp, by rw [HR.out]; simp [HA.out, hr]⟩
          case measure => simp [intOf]; omega
        · have hr1 : rightB v = false := by simpa using hr
          have e0 : addsS pot n xs = 2 := by
            have hf := all_false_of hv.out hr1
            simp [addsS, h3', hl, hf]; omega
          have E := Lib.hid e0
          clear hr e0 ha h hl
          go_wp2_with (go_at_call 26; refine (rightC _ _).mono ?_; rintro e w' ⟨rfl, rfl⟩)
          go_ret
          exact ⟨by rw [E.out]; rfl, rfl⟩
      · obtain rfl : k = n := by omega
        have ht : xs.take k = xs := List.take_of_length_le (by omega)
        rw [ht] at ha hb ⊢
        clear ht
        by_cases hs : xs.sum = pot
        · have e0 : addsS pot k xs = 0 := by simp [addsS, h3', hl, ha, hs]; omega
          have E := Lib.hid e0
          have hs' : (xs.sum != pot) = false := by simpa using hs
          clear e0 ha h hl hs
          go_wp2_with fail
          go_ret
          exact ⟨by rw [E.out]; rfl, rfl⟩
        · have e0 : addsS pot k xs = 22 := by simp [addsS, h3', hl, ha, hs]; omega
          have E := Lib.hid e0
          have hs' : (xs.sum != pot) = true := by simpa using hs
          clear e0 ha h hl hs
          go_wp2_with fail
          go_ret
          exact ⟨by rw [E.out]; rfl, rfl⟩
  · have e0 : addsS pot seats xs = 3 := by simp [addsS, h1, h2, h3', hl, h4]
    have E := Lib.hid e0
    have h4' : ((n : Int) != seats) = true := by simpa using h4
    clear e0 hl
    go_enter Try.func13, Try.ntmps13
    go_wp2_with (go_at_call 26; refine (rightC _ _).mono ?_; rintro e w' ⟨rfl, rfl⟩)
    go_ret
    exact ⟨by rw [E.out]; rfl, rfl⟩
end Go.Proofs.Ytpnegfocmaecbaa
