/- Contract: close.Forfeit. -/
import Derived.Test.YtpnegfocmaecbaaD
namespace Go.Proofs.Ytpnegfocmaecbaa
open Go.RowKit
set_option maxRecDepth 100000

def forfC (pays : List Int) (seat bond : Int) (gone : List Bool) : Int :=
  if pays.length < 2 ∨ 8 < pays.length then 1 else if gone.length ≠ pays.length then 3 else if seat < 0 ∨ (pays.length : Int) ≤ seat then 28
  else if rightB bond = false then 2 else if sumFrom 0 pays = none then 2 else 0
def lessS (pays : List Int) (seat bond : Int) : Int := min bond (pays.getD seat.toNat 0)
def forfY (pays : List Int) (seat bond : Int) (gone : List Bool) : List Int :=
  if forfC pays seat bond gone ≠ 0 then [] else if someOw seat gone pays.length = false then pays
  else List.zipWith (· + ·) (pays.set seat.toNat (pays.getD seat.toNat 0 - lessS pays seat bond)) (splitS (lessS pays seat bond) (wts seat gone pays.length))

/-- Nothing, or numbers in new memory, and an error's number. -/
def FRes (w : World) (ty : TypeId) (code : Int) (ys : List Int) (e : Ending) (w' : World) : Prop :=
  ∃ A n c, e = .returned (.tuple #[.slice A n c, .int .i64 code]) ∧ w'.ownsRow w.heap.size ty 1 (.slice A n c) n (ys.map (Value.int .i64)) ∧ Below w.heap.size w w'

theorem FRes.no (w : World) (ty : TypeId) (code : Int) (w' : World) (h : Below w.heap.size w w') : FRes w ty code [] (.returned (.tuple #[.slice none 0 0, .int .i64 code])) w' :=
  ⟨none, 0, 0, rfl, World.ownsRow_nil _ _ _ _, h⟩

theorem sumFrom_right {s t : Int} {xs : List Int} (h : sumFrom s xs = some t) : ∀ x ∈ xs, 0 ≤ x ∧ x ≤ 1125899906842624 := by
  induction xs generalizing s with
  | nil => simp
  | cons y l ih =>
    rw [sumFrom] at h
    by_cases ho : addOk s y = true
    · rw [if_pos ho] at h
      have := addOk_true.1 ho
      intro x hx
      rcases List.mem_cons.1 hx with rfl | hx
      · omega
      · exact ih h x hx
    · rw [if_neg ho] at h; cases h

theorem giveOne_bound (b : Int) (l : Int) (ws ps : List Int) (h : ∀ x ∈ ps, 0 ≤ x ∧ x ≤ b) : ∀ x ∈ giveOne l ws ps, 0 ≤ x ∧ x ≤ b + 1 := by
  induction ws generalizing l ps with
  | nil => intro x hx; simp only [giveOne] at hx; have := h x hx; omega
  | cons w ws ih =>
    cases ps with
    | nil => intro x hx; simp [giveOne] at hx
    | cons p ps =>
      have hp := h p (by simp)
      have ht : ∀ x ∈ ps, 0 ≤ x ∧ x ≤ b := fun x hx => h x (by simp [hx])
      intro x hx
      rw [giveOne] at hx
      split at hx
      · have := h x hx; omega
      · split at hx
        · rcases List.mem_cons.1 hx with rfl | hx
          · omega
          · exact ih _ _ ht x hx
        · rcases List.mem_cons.1 hx with rfl | hx
          · omega
          · exact ih _ _ ht x hx
theorem giveOne_length (l : Int) (ws ps : List Int) : (giveOne l ws ps).length = ps.length := by
  induction ws generalizing l ps with
  | nil => simp [giveOne]
  | cons w ws ih =>
    cases ps with
    | nil => simp [giveOne]
    | cons p ps =>
      rw [giveOne]
      split
      · rfl
      · split <;> simp [ih]
theorem splitS_length (total : Int) (ws : List Int) : (splitS total ws).length = ws.length := by
  simp [splitS, giveOne_length, quos]
theorem splitS_bound (total : Int) (ws : List Int) (ht : 0 ≤ total) (hw : ∀ x ∈ ws, 0 ≤ x) (hs : 0 < ws.sum) : ∀ x ∈ splitS total ws, 0 ≤ x ∧ x ≤ total + 1 := by
  refine giveOne_bound total _ _ _ fun x hx => ?_
  simp only [quos, List.mem_map] at hx
  obtain ⟨v, hv, rfl⟩ := hx
  exact ⟨Int.ediv_nonneg (Int.mul_nonneg ht (hw v hv)) (by omega), Int.ediv_le_of_le_mul (by omega) (Int.mul_le_mul_of_nonneg_left (le_sum_of_mem ws v hv hw) ht)⟩
theorem wts_bound (seat : Int) (gone : List Bool) (n : Nat) : ∀ x ∈ wts seat gone n, 0 ≤ x ∧ x ≤ 1 := by
  intro x hx
  simp only [wts, List.mem_map] at hx
  obtain ⟨i, _, rfl⟩ := hx
  split <;> omega
theorem wts_sum (seat : Int) (gone : List Bool) (n : Nat) (h : someOw seat gone n = true) : 0 < (wts seat gone n).sum := by
  simp only [someOw, List.any_eq_true] at h
  obtain ⟨i, hi, ho⟩ := h
  have : (1 : Int) ∈ wts seat gone n := by
    simp only [wts, List.mem_map]
    exact ⟨i, hi, by simp [ho]⟩
  have := le_sum_of_mem _ _ this (fun x hx => (wts_bound seat gone n x hx).1)
  omega
theorem wts_length (seat : Int) (gone : List Bool) (n : Nat) : (wts seat gone n).length = n := by simp [wts]

def zipTo (L P : List Int) (k : Nat) : List Int := List.zipWith (· + ·) (L.take k) (P.take k) ++ L.drop k
theorem zipTo_zero (L P : List Int) : zipTo L P 0 = L := by simp [zipTo]
theorem zipTo_full (L P : List Int) (n : Nat) (h : L.length = n) (h' : P.length = n) : zipTo L P n = List.zipWith (· + ·) L P := by
  simp [zipTo, List.take_of_length_le (Nat.le_of_eq h), List.take_of_length_le (Nat.le_of_eq h'), List.drop_of_length_le (Nat.le_of_eq h)]
theorem zipTo_length (L P : List Int) (k : Nat) (h : L.length = P.length) : (zipTo L P k).length = L.length := by
  simp [zipTo, h]; omega
theorem zipTo_at (L P : List Int) (k : Nat) (x : Int) (h : L[k]? = some x) (hl : L.length = P.length) : (zipTo L P k)[k]? = some x := by
  have hk := (List.getElem?_eq_some_iff.1 h).1
  unfold zipTo
  rw [List.getElem?_append_right (by simp; omega)]
  rw [List.getElem?_drop]
  simp only [List.length_zipWith, List.length_take]
  rw [show min (min k L.length) (min k P.length) = k by omega]
  simpa using h
theorem zipTo_succ (L P : List Int) (k : Nat) (x y : Int) (h : L[k]? = some x) (h' : P[k]? = some y) (hl : L.length = P.length) : zipTo L P (k + 1) = (zipTo L P k).set k (x + y) := by
  have hk := (List.getElem?_eq_some_iff.1 h).1
  unfold zipTo
  rw [take_snoc h, take_snoc h', List.zipWith_append (by simp; omega), drop_cons h, List.set_append_right _ _ (by simp; omega)]
  simp only [List.length_zipWith, List.length_take]
  rw [show k - min (min k L.length) (min k P.length) = 0 by omega]
  simp

end Go.Proofs.Ytpnegfocmaecbaa
