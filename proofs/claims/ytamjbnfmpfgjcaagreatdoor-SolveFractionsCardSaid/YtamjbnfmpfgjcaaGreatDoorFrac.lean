/- Fractions in lowest terms, in plain Lean: two are one just if neither is less. -/
import Derived.Test.YtamjbnfmpfgjcaaGreatDoorBase
set_option maxRecDepth 100000
namespace Go.Proofs.YtamjbnfmpfgjcaaGreatDoor
theorem cross_eq {a b c d : Int} (hb : 0 < b) (hd : 0 < d) (h1 : Int.gcd a b = 1) (h2 : Int.gcd c d = 1) (h : a * d = c * b) : a = c ∧ b = d := by
  have hn : a.natAbs * d.natAbs = c.natAbs * b.natAbs := by rw [← Int.natAbs_mul, ← Int.natAbs_mul, h]
  have h1' : Nat.Coprime b.natAbs a.natAbs := Nat.coprime_comm.1 h1
  have h2' : Nat.Coprime d.natAbs c.natAbs := Nat.coprime_comm.1 h2
  have hbd : b.natAbs ∣ d.natAbs := h1'.dvd_of_dvd_mul_left ⟨c.natAbs, by rw [hn, Nat.mul_comm]⟩
  have hdb : d.natAbs ∣ b.natAbs := h2'.dvd_of_dvd_mul_left ⟨a.natAbs, by rw [← hn, Nat.mul_comm]⟩
  have he : b.natAbs = d.natAbs := Nat.dvd_antisymm hbd hdb
  have hbe : b = d := by omega
  subst hbe
  exact ⟨Int.eq_of_mul_eq_mul_right (by omega) h, rfl⟩
/-- The parts of n / d in lowest terms. -/
def low (n d : Int) : Int := n.tdiv (Int.gcd n d : Int)
theorem low_gcd (n d : Int) (hd : 0 < d) : Int.gcd (n.tdiv (Int.gcd n d : Int)) (d.tdiv (Int.gcd n d : Int)) = 1 := by
  show Nat.gcd _ _ = 1
  rw [Int.natAbs_tdiv, Int.natAbs_tdiv, Int.natAbs_natCast]
  exact Nat.coprime_div_gcd_div_gcd (Nat.gcd_pos_of_pos_right _ (by omega))
theorem gcd_pos (n d : Int) (hd : 0 < d) : 0 < (Int.gcd n d : Int) := by
  have : 0 < Nat.gcd n.natAbs d.natAbs := Nat.gcd_pos_of_pos_right _ (by omega)
  show 0 < ((Nat.gcd n.natAbs d.natAbs : Nat) : Int)
  omega
theorem den_pos (n d : Int) (hd : 0 < d) : 0 < d.tdiv (Int.gcd n d : Int) := by
  obtain ⟨k, hk⟩ : (Int.gcd n d : Int) ∣ d := Int.gcd_dvd_right ..
  have hg := gcd_pos n d hd
  have : d.tdiv (Int.gcd n d : Int) = k := by
    conv => lhs; arg 1; rw [hk]
    exact Int.mul_tdiv_cancel_left k (by omega)
  rw [this]
  rcases Int.lt_trichotomy k 0 with h | h | h
  · exfalso
    have := Int.mul_neg_of_pos_of_neg hg h
    omega
  · subst h; simp at hk; omega
  · exact h
theorem tdiv_le (n : Int) (g : Int) (hg : 0 < g) : -(n.natAbs : Int) ≤ n.tdiv g ∧ n.tdiv g ≤ n.natAbs := by
  have h : (n.tdiv g).natAbs ≤ n.natAbs := by rw [Int.natAbs_tdiv]; exact Nat.div_le_self ..
  omega
/-- One step of Euclid's way. -/
theorem gcd_step (a b : Int) : Int.gcd b (a.tmod b) = Int.gcd a b := by
  show Nat.gcd _ _ = Nat.gcd _ _
  rw [Int.natAbs_tmod, Nat.gcd_comm a.natAbs, Nat.gcd_rec b.natAbs a.natAbs, Nat.gcd_comm]
theorem tmod_lt (a b : Int) (hb : b ≠ 0) : (a.tmod b).natAbs < b.natAbs := by
  rw [Int.natAbs_tmod]; exact Nat.mod_lt _ (by omega)
end Go.Proofs.YtamjbnfmpfgjcaaGreatDoor
