/- Contracts: whose signature lacks. -/
import Derived.Test.YtpnegfocmaecbaaNote6
import Derived.Deep.RegionHeld3
namespace Go.Proofs.Ytpnegfocmaecbaa
open Go.RowKit
def verB (L : List Ent) (e : Ent) : List Int → Bool
  | [x, y] => decide (e ∈ L ∧ (L.idxOf e : Int) = x + 256 * y)
  | _ => false
/-- A signature that is shown: none, or two bytes. -/
structure SigOk (w : World) (p : Pc) : Prop where
  ok : p.ok w
  two : (p.bs = [] ∧ p.n = 0) ∨ ∃ x y, p.bs = [x, y] ∧ p.n = 2 ∧ (0 ≤ x ∧ x ≤ 255) ∧ (0 ≤ y ∧ y ≤ 255)
theorem SigOk.below {w w' : World} {p : Pc} (h : SigOk w p) (hb : Below w.heap.size w w') : SigOk w' p := ⟨⟨h.ok.1.below hb, h.ok.2⟩, h.two⟩
theorem SigOk.small {w : World} {p : Pc} (h : SigOk w p) : p.n ≤ 2 := by
  rcases h.two with ⟨_, h2⟩ | ⟨x, y, _, h2, _⟩ <;> omega
theorem cloneAny (p : Pc) (w : World) (h : SigOk w p) : Calls Try.prog 47 #[p.val] w fun e w' => ∃ A' c', e = .returned (.slice A' p.n c') ∧ SigOk w' ⟨A', p.n, c', p.bs⟩ ∧ Below w.heap.size w w' := by
  have hs := h.small
  obtain ⟨A, n, c, bs⟩ := p
  cases A with
  | none =>
    have hc : c = 0 := h.ok.2 rfl
    have hn : n = 0 := by
      rcases Nat.eq_zero_or_pos n with h0 | h0
      · exact h0
      · obtain ⟨b, off, hA, _⟩ := h.ok.1.at_ h0
        cases hA
    subst hc hn
    refine (bclone_nil w).mono ?_
    rintro e w' ⟨rfl, rfl⟩
    exact ⟨none, 0, rfl, h, Below.refl _ _⟩
  | some ad =>
    refine (bclone ad n c bs w h.ok.1 (by dsimp only at hs; omega)).mono ?_
    rintro e w' ⟨A', c', rfl, h1, h2, h3⟩
    exact ⟨A', c', rfl, ⟨⟨h1, h2⟩, h.two⟩, h3⟩
theorem verifyAny (gb B mb c : Nat) (A : Option Addr) (D : DataW Unit) (L : List Ent) (k m : List Int) (p : Pc) (w : World) (hk : Dig k) (hm : Dig m) (hb : Book w gb B L A c mb D) (hs : SigOk w p) :
    Calls Try.prog 68 #[.pointer (some ⟨gb, 0, none⟩), dv k, dv m, p.val] w fun e w' => e = .returned (.bool (verB L (k, m) p.bs)) ∧ Below w.heap.size w w' := by
  obtain ⟨pA, n, c', bs⟩ := p
  rcases hs.two with ⟨h1, h2⟩ | ⟨x, y, h1, h2, hx, hy⟩
  · dsimp only at h1 h2
    subst h1 h2
    exact verify0 gb k m pA 0 c' w hk hm (by omega)
  · dsimp only at h1 h2
    subst h1 h2
    exact verifyC gb B mb c c' A pA D L k m x y w hk hm hb hs.ok.1 hx hy
theorem methodV (a : Addr) (w : World) : (method 219 33 (.pointer (some a)) "Verify").run Try.prog w = .ok (68, .pointer (some a)) w := by kernel_rfl
theorem nilAheadV (a : Addr) (w : World) : (nilAhead 219 33 (.pointer (some a)) "Verify").run Try.prog w = .ok (some false) w := by kernel_rfl
end Go.Proofs.Ytpnegfocmaecbaa
