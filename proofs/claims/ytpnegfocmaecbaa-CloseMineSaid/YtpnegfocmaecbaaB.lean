/- Contracts: both Add, both Sum, the document's Adds, Alike. -/
import Derived.Test.YtpnegfocmaecbaaA
namespace Go.Proofs.Ytpnegfocmaecbaa
open Go.RowKit

def addOk (a b : Int) : Bool := rightB a && rightB b && rightB (a + b)

theorem addOk_true {a b : Int} : addOk a b = true ↔ (0 ≤ a ∧ a ≤ 1125899906842624) ∧ (0 ≤ b ∧ b ≤ 1125899906842624) ∧ 0 ≤ a + b ∧ a + b ≤ 1125899906842624 := by
  simp only [addOk, Bool.and_eq_true, rightB_true, and_assoc]

theorem addC_yes (a b : Int) (w : World) (h : addOk a b = true) : Calls Try.prog 40 #[.int .i64 a, .int .i64 b] w fun e w' => e = .returned (.tuple #[.int .i64 (a + b), .int .i64 0]) ∧ w = w' := by
  have hx := addOk_true.1 h
  have h1 : rightB a = true := rightB_true.2 (by omega)
  have h2 : rightB b = true := rightB_true.2 (by omega)
  have h3 : rightB (a + b) = true := rightB_true.2 (by omega)
  have h4 : rightB (wrap64 (a + b)) = true := by rw [IntWalk.wrap64_in _ ⟨by omega, by omega⟩]; exact h3
  clear h
  obtain ⟨⟨a1, a2⟩, ⟨b1, b2⟩, c1, c2⟩ := hx
  go_enter Try.func40, Try.ntmps40
  go_wp2_with (go_at_call 26; refine (rightC _ _).mono ?_; rintro e w' ⟨rfl, rfl⟩)
  go_ret2
  exact ⟨rfl, rfl⟩
theorem addC_no (a b : Int) (w : World) (h : addOk a b = false) : Calls Try.prog 40 #[.int .i64 a, .int .i64 b] w fun e w' => e = .returned (.tuple #[.int .i64 0, .int .i64 2]) ∧ w = w' := by
  by_cases h1 : rightB a = true
  · by_cases h2 : rightB b = true
    · have hx := rightB_true.1 h1
      have hy := rightB_true.1 h2
      have h3 : rightB (a + b) = false := by simpa [addOk, h1, h2] using h
      obtain ⟨a1, a2⟩ := hx
      obtain ⟨b1, b2⟩ := hy
      clear h
      go_enter Try.func40, Try.ntmps40
      go_wp2_with (go_at_call 26; refine (rightC _ _).mono ?_; rintro e w' ⟨rfl, rfl⟩)
      go_ret2
      exact ⟨rfl, rfl⟩
    · have h2' : rightB b = false := by simpa using h2
      clear h h2
      go_enter Try.func40, Try.ntmps40
      go_wp2_with (go_at_call 26; refine (rightC _ _).mono ?_; rintro e w' ⟨rfl, rfl⟩)
      go_ret2
      exact ⟨rfl, rfl⟩
  · have h1' : rightB a = false := by simpa using h1
    clear h h1
    go_enter Try.func40, Try.ntmps40
    go_wp2_with (go_at_call 26; refine (rightC _ _).mono ?_; rintro e w' ⟨rfl, rfl⟩)
    go_ret2
    exact ⟨rfl, rfl⟩
theorem addR_yes (a b : Int) (w : World) (h : addOk a b = true) : Calls Try.prog 25 #[.int .i64 a, .int .i64 b] w fun e w' => e = .returned (.tuple #[.int .i64 (a + b), .int .i64 0]) ∧ w = w' := by
  have hx := addOk_true.1 h
  have h1 : rightB a = true := rightB_true.2 (by omega)
  have h2 : rightB b = true := rightB_true.2 (by omega)
  have h3 : rightB (a + b) = true := rightB_true.2 (by omega)
  have h4 : rightB (wrap64 (a + b)) = true := by rw [IntWalk.wrap64_in _ ⟨by omega, by omega⟩]; exact h3
  clear h
  obtain ⟨⟨a1, a2⟩, ⟨b1, b2⟩, c1, c2⟩ := hx
  go_enter Try.func25, Try.ntmps25
  go_wp2_with (go_at_call 23; refine (rightR _ _).mono ?_; rintro e w' ⟨rfl, rfl⟩)
  go_ret2
  exact ⟨rfl, rfl⟩
theorem addR_no (a b : Int) (w : World) (h : addOk a b = false) : Calls Try.prog 25 #[.int .i64 a, .int .i64 b] w fun e w' => e = .returned (.tuple #[.int .i64 0, .int .i64 2]) ∧ w = w' := by
  by_cases h1 : rightB a = true
  · by_cases h2 : rightB b = true
    · have hx := rightB_true.1 h1
      have hy := rightB_true.1 h2
      have h3 : rightB (a + b) = false := by simpa [addOk, h1, h2] using h
      obtain ⟨a1, a2⟩ := hx
      obtain ⟨b1, b2⟩ := hy
      clear h
      go_enter Try.func25, Try.ntmps25
      go_wp2_with (go_at_call 23; refine (rightR _ _).mono ?_; rintro e w' ⟨rfl, rfl⟩)
      go_ret2
      exact ⟨rfl, rfl⟩
    · have h2' : rightB b = false := by simpa using h2
      clear h h2
      go_enter Try.func25, Try.ntmps25
      go_wp2_with (go_at_call 23; refine (rightR _ _).mono ?_; rintro e w' ⟨rfl, rfl⟩)
      go_ret2
      exact ⟨rfl, rfl⟩
  · have h1' : rightB a = false := by simpa using h1
    clear h h1
    go_enter Try.func25, Try.ntmps25
    go_wp2_with (go_at_call 23; refine (rightR _ _).mono ?_; rintro e w' ⟨rfl, rfl⟩)
    go_ret2
    exact ⟨rfl, rfl⟩

/-- All together, as far as each is an amount and what they come to is one. -/
def sumFrom (s : Int) : List Int → Option Int
  | [] => some s
  | x :: l => if addOk s x = true then sumFrom (s + x) l else none

def sumRes : Option Int → Value
  | some v => .tuple #[.int .i64 v, .int .i64 0]
  | none => .tuple #[.int .i64 0, .int .i64 2]

theorem sumC (A : Option Addr) (n c : Nat) (xs : List Int) (w : World) (h : Sl (Value.int .i64) w A n xs) (hf : Fits xs) :
    Calls Try.prog 27 #[.slice A n c] w fun e w' => e = .returned (sumRes (sumFrom 0 xs)) ∧ w = w' := by
  have hl := h.len
  have hm := h.max
  generalize hG : sumFrom 0 xs = G
  have HG := Lib.hid hG
  clear hG hl
  go_enter Try.func27, Try.ntmps27
  go_wp2_with fail
  go_loop [4, 11] (fun s i => ∃ (k : Nat) (t : Int), k ≤ n ∧ i = .int .i64 k ∧ s = .int .i64 t ∧ 0 ≤ t ∧ t ≤ 1125899906842624 ∧ Hid (sumFrom t (xs.drop k) = G)) (fun _ i => n - (intOf i).toNat)
  case atStart => exact ⟨0, 0, Nat.zero_le _, rfl, rfl, by omega, by omega, HG⟩
  case round =>
    obtain ⟨k, t, hk, rfl, rfl, t1, t2, HT⟩ := hrel
    by_cases hlt : k < n
    · obtain ⟨b, off, v, rfl, _, hck, hv⟩ := h.get hlt
      obtain ⟨v1, v2⟩ := hf.at_ hv
      have HD : Hid (xs.drop k = v :: xs.drop (k + 1)) := drop_cons hv.out
      by_cases ho : addOk t v = true
      · have hx := addOk_true.1 ho
        have HN : Hid (sumFrom (t + v) (xs.drop (k + 1)) = G) := by have := HT.out; rw [HD.out, sumFrom, if_pos ho] at this; exact this
        obtain ⟨_, _, c1, c2⟩ := hx
        clear h
        go_wp2_with (go_at_call 40; refine (addC_yes _ _ _ ho).mono ?_; rintro e w' ⟨rfl, rfl⟩)
        go_round
        case rel => exact ⟨k + 1, t + v, by omega, by go_num, rfl, by omega, by omega, HN⟩
        case measure => simp [intOf]; omega
      · have ho' : addOk t v = false := by simpa using ho
        have HN : Hid (none = G) := by have := HT.out; rw [HD.out, sumFrom, if_neg ho] at this; exact this
        clear h ho
        go_wp2_with (go_at_call 40; refine (addC_no _ _ _ ho').mono ?_; rintro e w' ⟨rfl, rfl⟩)
        go_ret2
        exact ⟨by rw [← HN.out]; rfl, rfl⟩
    · obtain rfl : k = n := by omega
      have HN : Hid (some t = G) := by have := HT.out; rw [List.drop_of_length_le (by rw [h.len]; omega), sumFrom] at this; exact this
      clear h
      go_wp2_with fail
      go_ret2
      exact ⟨by rw [← HN.out]; rfl, rfl⟩
theorem sumR (A : Option Addr) (n c : Nat) (xs : List Int) (w : World) (h : Sl (Value.int .i64) w A n xs) (hf : Fits xs) :
    Calls Try.prog 11 #[.slice A n c] w fun e w' => e = .returned (sumRes (sumFrom 0 xs)) ∧ w = w' := by
  have hl := h.len
  have hm := h.max
  generalize hG : sumFrom 0 xs = G
  have HG := Lib.hid hG
  clear hG hl
  go_enter Try.func11, Try.ntmps11
  go_wp2_with fail
  go_loop [4, 5] (fun s i => ∃ (k : Nat) (t : Int), k ≤ n ∧ i = .int .i64 k ∧ s = .int .i64 t ∧ 0 ≤ t ∧ t ≤ 1125899906842624 ∧ Hid (sumFrom t (xs.drop k) = G)) (fun _ i => n - (intOf i).toNat)
  case atStart => exact ⟨0, 0, Nat.zero_le _, rfl, rfl, by omega, by omega, HG⟩
  case round =>
    obtain ⟨k, t, hk, rfl, rfl, t1, t2, HT⟩ := hrel
    by_cases hlt : k < n
    · obtain ⟨b, off, v, rfl, _, hck, hv⟩ := h.get hlt
      obtain ⟨v1, v2⟩ := hf.at_ hv
      have HD : Hid (xs.drop k = v :: xs.drop (k + 1)) := drop_cons hv.out
      by_cases ho : addOk t v = true
      · have hx := addOk_true.1 ho
        have HN : Hid (sumFrom (t + v) (xs.drop (k + 1)) = G) := by have := HT.out; rw [HD.out, sumFrom, if_pos ho] at this; exact this
        obtain ⟨_, _, c1, c2⟩ := hx
        clear h
        go_wp2_with (go_at_call 25; refine (addR_yes _ _ _ ho).mono ?_; rintro e w' ⟨rfl, rfl⟩)
        go_round
        case rel => exact ⟨k + 1, t + v, by omega, by go_num, rfl, by omega, by omega, HN⟩
        case measure => simp [intOf]; omega
      · have ho' : addOk t v = false := by simpa using ho
        have HN : Hid (none = G) := by have := HT.out; rw [HD.out, sumFrom, if_neg ho] at this; exact this
        clear h ho
        go_wp2_with (go_at_call 25; refine (addR_no _ _ _ ho').mono ?_; rintro e w' ⟨rfl, rfl⟩)
        go_ret2
        exact ⟨by rw [← HN.out]; rfl, rfl⟩
    · obtain rfl : k = n := by omega
      have HN : Hid (some t = G) := by have := HT.out; rw [List.drop_of_length_le (by rw [h.len]; omega), sumFrom] at this; exact this
      clear h
      go_wp2_with fail
      go_ret2
      exact ⟨by rw [← HN.out]; rfl, rfl⟩
theorem alikeR (A B : Option Addr) (n m c d : Nat) (xs ys : List Int) (w : World) (h : Sl (Value.int .i64) w A n xs) (h' : Sl (Value.int .i64) w B m ys) :
    Calls Try.prog 14 #[.slice A n c, .slice B m d] w fun e w' => e = .returned (.bool (xs == ys)) ∧ ∃ N, w' = w.drewN N := by
  have hm := h.max
  have hm' := h'.max
  by_cases hn : n = m
  · subst hn
    have hn' : ((n : Int) != (n : Int)) = false := by simp
    go_enter Try.func14, Try.ntmps14
    go_wp2_with fail
    go_loopw [5] (fun i w1 => ∃ (k N : Nat), k ≤ n ∧ i = .int .i64 k ∧ Hid (xs.take k = ys.take k) ∧ w1 = w.drewN N) (fun i _ => n - (intOf i).toNat)
    case atStart => exact ⟨0, 0, Nat.zero_le _, rfl, rfl, rfl⟩
    case round =>
      obtain ⟨k, N, hk, rfl, HT, rfl⟩ := hrel
      by_cases hlt : k < n
      · obtain ⟨b, off, v, rfl, _, hck, hv⟩ := h.get hlt
        obtain ⟨b', off', v', rfl, _, hck', hv'⟩ := h'.get hlt
        have HL := Lib.hid h
        have HL' := Lib.hid h'
        clear h h'
        by_cases he : v = v'
        · subst he
          have he' : (v != v) = false := by simp
          have HN : Hid (xs.take (k + 1) = ys.take (k + 1)) := by show _ = _; rw [take_snoc hv.out, take_snoc hv'.out, HT.out]
          go_wp2_with fail
          go_quiet (fail)
          go_wp2_with fail
          go_roundw
          case rel => exact ⟨k + 1, _, by omega, by go_num, HN, rfl⟩
          case measure => simp [intOf]; omega
        · have he' : (v != v') = true := by simpa using he
          have HE : Hid ((xs == ys) = false) := by
            show (xs == ys) = false
            rw [beq_eq_false_iff_ne]
            rintro rfl
            exact he (by have := hv.out.symm.trans hv'.out; simpa using this)
          clear he
          go_wp2_with fail
          go_quiet (fail)
          go_wp2_with fail
          go_ret
          exact ⟨by rw [HE.out]; rfl, _, World.drewN_drewN _ _ _⟩
      · obtain rfl : k = n := by omega
        have HE : Hid ((xs == ys) = true) := by
          have := HT.out
          rw [List.take_of_length_le (by rw [h.len]; omega), List.take_of_length_le (by rw [h'.len]; omega)] at this
          show (xs == ys) = true
          simpa using this
        clear h h'
        go_wp2_with fail
        go_ret
        exact ⟨by rw [HE.out]; rfl, N, rfl⟩
  · have hn' : ((n : Int) != (m : Int)) = true := by simp; omega
    have HE : Hid ((xs == ys) = false) := by
      show (xs == ys) = false
      rw [beq_eq_false_iff_ne]
      rintro rfl
      exact hn (h.len.symm.trans h'.len)
    clear h h'
    go_enter Try.func14, Try.ntmps14
    go_wp2_with fail
    go_ret
    exact ⟨by rw [HE.out]; rfl, 0, rfl⟩
end Go.Proofs.Ytpnegfocmaecbaa
