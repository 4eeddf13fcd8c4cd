/- Contracts: whether two slices are the same. -/
import Derived.Test.YthnjebcablpneaaGreatDoorPos2
import Derived.Deep.QuietTactic
set_option maxRecDepth 100000
namespace Go.Proofs.YthnjebcablpneaaGreatDoor
open Go.RowKit
theorem eqI (A B : Option Addr) (n m c d : Nat) (xs ys : List Int) (w : World) (h : Sl (Value.int .i32) w A n xs) (h' : Sl (Value.int .i32) w B m ys) :
    Calls Tryz.prog 42 #[.slice A n c, .slice B m d] w fun e w' => e = .returned (.bool (xs == ys)) ∧ ∃ N, w' = w.drewN N := by
  have hm := h.max
  have hm' := h'.max
  by_cases hn : n = m
  · subst hn
    have hn' : ((n : Int) != (n : Int)) = false := by simp
    go_enter Tryz.func42, Tryz.ntmps42
    go_wp2_with fail
    go_loopw [13] (fun i w1 => ∃ (k N : Nat), k ≤ n ∧ i = .int .i64 k ∧ Hid (xs.take k = ys.take k) ∧ w1 = w.drewN N) (fun i _ => n - (intOf i).toNat)
    case atStart => exact ⟨0, 0, Nat.zero_le _, rfl, rfl, rfl⟩
    case round =>
      obtain ⟨k, N, hk, rfl, HT, rfl⟩ := hrel
      by_cases hlt : k < n
      · obtain ⟨b, off, v, rfl, _, hck, hv⟩ := h.get hlt
        obtain ⟨b', off', v', rfl, _, hck', hv'⟩ := h'.get hlt
        have HL := Lib.hid h
        have HL' := Lib.hid h'
        clear h h'
        by_cases he : v = v'
        · subst he
          have he' : (v != v) = false := by simp
          have he2 : (!(v == v)) = false := by simp
          have HN : Hid (xs.take (k + 1) = ys.take (k + 1)) := by show _ = _; rw [take_snoc hv.out, take_snoc hv'.out, HT.out]
          go_wp2_with fail
          go_quiet (fail)
          go_wp2_with fail
          all_goals go_roundw
          all_goals first | exact ⟨k + 1, _, by omega, by go_num, HN, rfl⟩ | (simp [intOf]; omega)
        · have he' : (v != v') = true := by simpa using he
          have he2 : (!(v == v')) = true := he'
          have he3 : (v == v') = false := by simpa using he
          have HE : Hid ((xs == ys) = false) := by
            show (xs == ys) = false
            rw [beq_eq_false_iff_ne]
            rintro rfl
            exact he (by have := hv.out.symm.trans hv'.out; simpa using this)
          clear he
          go_wp2_with fail
          go_quiet (fail)
          go_wp2_with fail
          go_ret
          exact ⟨by rw [HE.out]; rfl, _, World.drewN_drewN _ _ _⟩
      · obtain rfl : k = n := by omega
        have HE : Hid ((xs == ys) = true) := by
          have := HT.out
          rw [List.take_of_length_le (by rw [h.len]; omega), List.take_of_length_le (by rw [h'.len]; omega)] at this
          show (xs == ys) = true
          simpa using this
        clear h h'
        go_wp2_with fail
        go_ret
        exact ⟨by rw [HE.out]; rfl, N, rfl⟩
  · have hn' : ((n : Int) != (m : Int)) = true := by simp; omega
    have HE : Hid ((xs == ys) = false) := by
      show (xs == ys) = false
      rw [beq_eq_false_iff_ne]
      rintro rfl
      exact hn (h.len.symm.trans h'.len)
    clear h h'
    go_enter Tryz.func42, Tryz.ntmps42
    go_wp2_with fail
    go_ret
    exact ⟨by rw [HE.out]; rfl, 0, rfl⟩
theorem eqB (A B : Option Addr) (n m c d : Nat) (xs ys : List Bool) (w : World) (h : Sl Value.bool w A n xs) (h' : Sl Value.bool w B m ys) :
    Calls Tryz.prog 43 #[.slice A n c, .slice B m d] w fun e w' => e = .returned (.bool (xs == ys)) ∧ ∃ N, w' = w.drewN N := by
  have hm := h.max
  have hm' := h'.max
  by_cases hn : n = m
  · subst hn
    have hn' : ((n : Int) != (n : Int)) = false := by simp
    go_enter Tryz.func43, Tryz.ntmps43
    go_wp2_with fail
    go_loopw [13] (fun i w1 => ∃ (k N : Nat), k ≤ n ∧ i = .int .i64 k ∧ Hid (xs.take k = ys.take k) ∧ w1 = w.drewN N) (fun i _ => n - (intOf i).toNat)
    case atStart => exact ⟨0, 0, Nat.zero_le _, rfl, rfl, rfl⟩
    case round =>
      obtain ⟨k, N, hk, rfl, HT, rfl⟩ := hrel
      by_cases hlt : k < n
      · obtain ⟨b, off, v, rfl, _, hck, hv⟩ := h.get hlt
        obtain ⟨b', off', v', rfl, _, hck', hv'⟩ := h'.get hlt
        have HL := Lib.hid h
        have HL' := Lib.hid h'
        clear h h'
        by_cases he : v = v'
        · subst he
          have he' : (v != v) = false := by simp
          have he2 : (!(v == v)) = false := by simp
          have HN : Hid (xs.take (k + 1) = ys.take (k + 1)) := by show _ = _; rw [take_snoc hv.out, take_snoc hv'.out, HT.out]
          go_wp2_with fail
          go_quiet (fail)
          go_wp2_with fail
          all_goals go_roundw
          all_goals first | exact ⟨k + 1, _, by omega, by go_num, HN, rfl⟩ | (simp [intOf]; omega)
        · have he' : (v != v') = true := by simpa using he
          have he2 : (!(v == v')) = true := he'
          have he3 : (v == v') = false := by simpa using he
          have HE : Hid ((xs == ys) = false) := by
            show (xs == ys) = false
            rw [beq_eq_false_iff_ne]
            rintro rfl
            exact he (by have := hv.out.symm.trans hv'.out; simpa using this)
          clear he
          go_wp2_with fail
          go_quiet (fail)
          go_wp2_with fail
          go_ret
          exact ⟨by rw [HE.out]; rfl, _, World.drewN_drewN _ _ _⟩
      · obtain rfl : k = n := by omega
        have HE : Hid ((xs == ys) = true) := by
          have := HT.out
          rw [List.take_of_length_le (by rw [h.len]; omega), List.take_of_length_le (by rw [h'.len]; omega)] at this
          show (xs == ys) = true
          simpa using this
        clear h h'
        go_wp2_with fail
        go_ret
        exact ⟨by rw [HE.out]; rfl, N, rfl⟩
  · have hn' : ((n : Int) != (m : Int)) = true := by simp; omega
    have HE : Hid ((xs == ys) = false) := by
      show (xs == ys) = false
      rw [beq_eq_false_iff_ne]
      rintro rfl
      exact hn (h.len.symm.trans h'.len)
    clear h h'
    go_enter Tryz.func43, Tryz.ntmps43
    go_wp2_with fail
    go_ret
    exact ⟨by rw [HE.out]; rfl, 0, rfl⟩
end Go.Proofs.YthnjebcablpneaaGreatDoor
