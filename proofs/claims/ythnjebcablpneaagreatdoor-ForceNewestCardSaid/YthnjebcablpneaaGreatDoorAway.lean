/- Positions stay where only two other blocks change. -/
import Derived.Test.YthnjebcablpneaaGreatDoorPos2
set_option maxRecDepth 100000
namespace Go.Proofs.YthnjebcablpneaaGreatDoor
open Go.RowKit
/-- Lies neither in block g nor in block h. -/
def Away (g h : Nat) (A : Option Addr) : Prop := ∀ a, A = some a → a.block ≠ g ∧ a.block ≠ h
/-- Nothing has changed but blocks g and h. -/
structure SameBut (g h : Nat) (w w' : World) : Prop where
  size : w.heap.size ≤ w'.heap.size
  block : ∀ b, b < w.heap.size → b ≠ g → b ≠ h → w'.heap[b]? = w.heap[b]?
theorem SameBut.cell {g h : Nat} {w w' : World} (hs : SameBut g h w w') {p : Addr} (hp : p.block < w.heap.size) (h1 : p.block ≠ g) (h2 : p.block ≠ h) : w'.cell? p = w.cell? p := by
  unfold World.cell?
  rw [hs.block _ hp h1 h2]
theorem SameBut.below {g h : Nat} {w w' : World} (hb : Below w.heap.size w w') : SameBut g h w w' := ⟨hb.size, fun b hlt _ _ => hb.block b hlt⟩
theorem SameBut.trans {g h : Nat} {a b c : World} (h1 : SameBut g h a b) (h2 : SameBut g h b c) : SameBut g h a c :=
  ⟨Nat.le_trans h1.size h2.size, fun k hk n1 n2 => (h2.block k (Nat.lt_of_lt_of_le hk h1.size) n1 n2).trans (h1.block k hk n1 n2)⟩
theorem Sl.away {α : Type} {f : α → Value} {g h : Nat} {w w' : World} {A : Option Addr} {n : Nat} {xs : List α} (hx : Sl f w A n xs) (ha : 0 < n → Away g h A) (hs : SameBut g h w w') : Sl f w' A n xs :=
  ⟨hx.len, hx.max, fun hn => by
    obtain ⟨b, off, hA, hlt, hc⟩ := hx.at_ hn
    have hn2 := ha hn _ hA
    exact ⟨b, off, hA, Nat.lt_of_lt_of_le hlt hs.size, fun k v hv => (hs.cell (p := ⟨b, off + k, none⟩) hlt hn2.1 hn2.2).trans (hc k v hv)⟩⟩
theorem Sln.away {α : Type} {sz : Nat} {f : α → List Value} {g h : Nat} {w w' : World} {A : Option Addr} {n : Nat} {xs : List α} (hx : Sln sz f w A n xs) (ha : 0 < n → Away g h A) (hs : SameBut g h w w') : Sln sz f w' A n xs :=
  ⟨hx.len, hx.max, hx.cells, fun hn => by
    obtain ⟨b, off, hA, hlt, hc⟩ := hx.at_ hn
    have hn2 := ha hn _ hA
    exact ⟨b, off, hA, Nat.lt_of_lt_of_le hlt hs.size, fun i v hv j c hj => (hs.cell (p := ⟨b, off + i * sz + j, none⟩) hlt hn2.1 hn2.2).trans (hc i v hv j c hj)⟩⟩
theorem PosAt.away {g h : Nat} {w w' : World} {A B C : Option Addr} {n m k : Nat} {x : PosD} (hx : PosAt w A B C n m k x) (hA : 0 < n → Away g h A) (hB : 0 < m → Away g h B) (hC : 0 < k → Away g h C) (hs : SameBut g h w w') : PosAt w' A B C n m k x :=
  ⟨hx.vars.away hA hs, hx.gone.away hB hs, hx.tips.away hC hs, hx.w32, hx.digs, hx.ok⟩
theorem away_none (g h : Nat) : Away g h none := fun _ ha => by cases ha
theorem away_at {g h b off : Nat} (h1 : b ≠ g) (h2 : b ≠ h) : Away g h (some ⟨b, off, none⟩) := fun a ha => by cases ha; exact ⟨h1, h2⟩
theorem own_away {g h base e sz n c m : Nat} {w : World} {A : Option Addr} {cs : List Value} (ho : w.ownsRow base e sz (.slice A n c) m cs) (hg : g < base) (hh : h < base) : Away g h A := by
  rcases ho.2 with ⟨hv, _⟩ | ⟨b, cap, cur, hv, hb, _⟩
  · injection hv with h1; subst h1; exact away_none g h
  · injection hv with h1; subst h1; exact away_at (by omega) (by omega)
theorem own_away_lt {g h base e sz n c m : Nat} {w : World} {A : Option Addr} {cs : List Value} (ho : w.ownsRow base e sz (.slice A n c) m cs) (hg : w.heap.size ≤ g) (hh : w.heap.size ≤ h) : Away g h A := by
  have hl := ho.lt
  rcases ho.2 with ⟨hv, _⟩ | ⟨b, cap, cur, hv, hb, _⟩
  · injection hv with h1; subst h1; exact away_none g h
  · rw [hv] at hl
    injection hv with h1; subst h1
    have := (hl b rfl).2
    exact away_at (by omega) (by omega)
theorem SameBut.setL {g h : Nat} (w : World) (j : Nat) (v : Value) : SameBut g h w (w.setCell ⟨g, j, none⟩ v) :=
  ⟨by simp only [World.setCell, Array.size_modify]; omega, fun b _ h1 _ => heap_setCell_other _ _ _ _ (by show b ≠ g; exact h1)⟩
theorem SameBut.setR {g h : Nat} (w : World) (j : Nat) (v : Value) : SameBut g h w (w.setCell ⟨h, j, none⟩ v) :=
  ⟨by simp only [World.setCell, Array.size_modify]; omega, fun b _ _ h2 => heap_setCell_other _ _ _ _ (by show b ≠ h; exact h2)⟩
theorem Sl.lies {α : Type} {f : α → Value} {g h : Nat} {w : World} {A : Option Addr} {n : Nat} {xs : List α} (hx : Sl f w A n xs) (hg : w.heap.size ≤ g) (hh : w.heap.size ≤ h) : 0 < n → Away g h A := fun hn a ha => by
  obtain ⟨b, off, hA, hlt, _⟩ := hx.at_ hn
  rw [hA] at ha; cases ha
  exact ⟨by show b ≠ g; omega, by show b ≠ h; omega⟩
theorem Sln.lies {α : Type} {sz : Nat} {f : α → List Value} {g h : Nat} {w : World} {A : Option Addr} {n : Nat} {xs : List α} (hx : Sln sz f w A n xs) (hg : w.heap.size ≤ g) (hh : w.heap.size ≤ h) : 0 < n → Away g h A := fun hn a ha => by
  obtain ⟨b, off, hA, hlt, _⟩ := hx.at_ hn
  rw [hA] at ha; cases ha
  exact ⟨by show b ≠ g; omega, by show b ≠ h; omega⟩
end Go.Proofs.YthnjebcablpneaaGreatDoor
