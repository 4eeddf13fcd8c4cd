/- A row of positions, as it came in. -/
import Derived.Test.YthnjebcablpneaaGreatDoorPos
set_option maxRecDepth 100000
namespace Go.Proofs.YthnjebcablpneaaGreatDoor
open Go.RowKit Go.ChangeShapes Go.WideShapes Go.ChangeAt Go.Joins
/-- A position and where its parts lie. -/
structure PosV where
  A : Option Addr
  B : Option Addr
  C : Option Addr
  n : Nat
  c : Nat
  m : Nat
  d : Nat
  k : Nat
  e : Nat
  y : PosD
def PosV.cells (v : PosV) : List Value := [.slice v.A v.n v.c, .slice v.B v.m v.d, .slice v.C v.k v.e] ++ v.y.roll.cells
structure PosV.Good (W : World) (v : PosV) : Prop where
  at_ : PosAt W v.A v.B v.C v.n v.m v.k v.y
  nA : v.A = none → v.c = 0
  nB : v.B = none → v.d = 0
  nC : v.C = none → v.e = 0
  ln : v.n ≤ v.c
  lm : v.m ≤ v.d
  lk : v.k ≤ v.e
section
variable {H : Type} {enc : TypeId × Value → H} {W : World} {base : Nat} {spare : Nat → Bool} {held : Bool}
theorem poss_in {fuel : Nat} {a : Option Addr} {len cap : Nat} {x : DataW H × List MemPlace} (h : DataW.trod enc Tryz.prog W base spare held fuel 47 [.slice a len cap] = some x) :
    ∃ vs : List PosV, Sln 8 PosV.cells W a len vs ∧ (∀ v ∈ vs, v.Good W) ∧ (a = none → cap = 0) :=
  sliceN_in 8 PosV.cells (PosV.Good W) Tryz.underlying47 posCells (by omega) (fun n cs y _ hy => by
    obtain ⟨A, B, C, n, c, m, d, k, e, y, h1, h2, h3, h4, h5, h6, h7, h8⟩ := pos_in hy
    exact ⟨⟨A, B, C, n, c, m, d, k, e, y⟩, h2, h1, h3, h4, h5, h6, h7, h8⟩) h
end
end Go.Proofs.YthnjebcablpneaaGreatDoor
