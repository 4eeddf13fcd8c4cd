/- Positions out of bytes: what is told of both Decodes (what is to be shown). -/
import Derived.Test.YthcldogebnjohaaGreatDoorYsnP
section
set_option maxRecDepth 100000
namespace Go.Proofs.YthcldogebnjohaaGreatDoor
open Go.Ev
-- keep num foldI dnum frm Go.Ev.Sli lookN Byts8 valN lead rdC rsC wdC wsC dvC dWC dgC dGC dtC dTC r0C r1C r2C r3C r4C decP endC unfI OwB Go.Ev.HV LC LF RI tipsL goneL
structure LN where
  at_ : Int
  e : Int
  ns : List Int
def rsC (bs : List Int) (m : Int) : Nat → Int → Int → LN
  | 0, p, e => ⟨p, e, []⟩
  | n + 1, p, e => if e ≠ 0 then ⟨p, e, []⟩ else ⟨(rsC bs m n (rdC bs p 0 m).at_ (rdC bs p 0 m).e).at_, (rsC bs m n (rdC bs p 0 m).at_ (rdC bs p 0 m).e).e, (rdC bs p 0 m).n :: (rsC bs m n (rdC bs p 0 m).at_ (rdC bs p 0 m).e).ns⟩
def dvC (bs : List Int) : RR := rdC bs 0 0 64
def dWC (bs : List Int) : LW := wsC bs (dvC bs).n.toNat (dvC bs).at_ (dvC bs).e
def dgC (bs : List Int) : RR := rdC bs (dWC bs).at_ (dWC bs).e 8
def dGC (bs : List Int) : LN := rsC bs 1 (dgC bs).n.toNat (dgC bs).at_ (dgC bs).e
def dtC (bs : List Int) : RR := rdC bs (dGC bs).at_ (dGC bs).e 8
def dTC (bs : List Int) : LN := rsC bs 18446744073709551615 (dtC bs).n.toNat (dtC bs).at_ (dtC bs).e
def r0C (bs : List Int) : RR := rdC bs (dTC bs).at_ (dTC bs).e 18446744073709551615
def r1C (bs : List Int) : RR := rdC bs (r0C bs).at_ (r0C bs).e 18446744073709551615
def r2C (bs : List Int) : RR := rdC bs (r1C bs).at_ (r1C bs).e 18446744073709551615
def r3C (bs : List Int) : RR := rdC bs (r2C bs).at_ (r2C bs).e 18446744073709551615
def r4C (bs : List Int) : RR := rdC bs (r3C bs).at_ (r3C bs).e 18446744073709551615
structure DP where
  e : Int
  v : List Int
  g : List Bool
  t : List Int
  r0 : Int
  r1 : Int
  r2 : Int
  r3 : Int
  r4 : Int
def goneL (ns : List Int) : List Bool := ns.map fun n => decide (n = 1)
def tipsL (ns : List Int) : List Int := ns.flatMap fun n => (frm n).l
def decP (bs : List Int) : DP := ⟨endC bs (r4C bs).at_ (r4C bs).e, (dWC bs).ws, goneL (dGC bs).ns, tipsL (dTC bs).ns, unfI (r0C bs).n, unfI (r1C bs).n, unfI (r2C bs).n, unfI (r3C bs).n, (r4C bs).n⟩
structure LF {α : Type} (f : α → Value) (sz : Nat) (s : SN) (ys : List α) : Prop where
  he : Go.Ev.HW f s.c ys
  l : ys.length = s.l * sz
  le : s.l ≤ s.k
  nil : s.n = true → ys = [] ∧ s.k = 0
structure PR where
  v : SN
  g : SN
  t : SN
  r0 : Int
  r1 : Int
  r2 : Int
  r3 : Int
  r4 : Int
set_option linter.unusedSectionVars false
variable [Go.Ev.Frozen Tryz.prog]
noncomputable section
abbrev PR.w (b : PR) (i : Nat) : List Value := b.v.v i :: b.g.v (i + 1) :: b.t.v (i + 2) :: [tgI .i64 b.r0, tgI .i64 b.r1, tgI .i64 b.r2, tgI .i64 b.r3, tgI .u64 b.r4]
end
end Go.Proofs.YthcldogebnjohaaGreatDoor
end

/- Positions out of bytes: what is told of the document's Decode is so. -/
section
set_option maxRecDepth 100000
namespace Go.Proofs.YthcldogebnjohaaGreatDoor
open Go.Ev
set_option linter.unusedSectionVars false
variable [Go.Ev.Frozen Tryz.prog]
theorem LF.none {α : Type} {f : α → Value} {sz : Nat} : LF f sz ⟨true, 0, 0, []⟩ ([] : List α) := ⟨.nil, by simp, Nat.le_refl _, fun _ => ⟨rfl, rfl⟩⟩
theorem LF.one {α : Type} {f : α → Value} {sz : Nat} {vs : List Value} {zs : List α} (h : HW f vs zs) (hl : zs.length = sz) : LF f sz ⟨false, 1, 1, vs⟩ zs := ⟨h, by simp [hl], Nat.le_refl _, fun h => by cases h⟩
theorem LF.snoc {α : Type} {f : α → Value} {sz : Nat} {s : SN} {ys zs : List α} {vs : List Value} (h : LF f sz s ys) (g : HW f vs zs) (hl : zs.length = sz) {n k : Nat} (hn : n = s.l + 1) (hk : k = if n ≤ s.k then s.k else n) : LF f sz ⟨false, n, k, s.c ++ vs⟩ (ys ++ zs) :=
  ⟨h.he.append g, by have := h.l; simp [hl, hn, Nat.add_mul, this], by show n ≤ k; rw [hk]; split <;> omega, fun h => by cases h⟩
theorem LF.len {α : Type} {f : α → Value} {sz : Nat} {s : SN} {ys : List α} (h : LF f sz s ys) : s.c.length = s.l * sz := by rw [h.he.len]; exact h.l
theorem HW.oneV {α : Type} {f : α → Value} {z : α} : HW f [f z] [z] := ⟨rfl, fun i x h => by
  cases i with
  | zero => simp at h; subst h; exact .inl rfl
  | succ i => simp at h⟩
end Go.Proofs.YthcldogebnjohaaGreatDoor
end

/- Positions out of bytes: what is told of the program's Decode is so. -/
section
set_option maxRecDepth 100000
namespace Go.Proofs.YthcldogebnjohaaGreatDoor
open Go.Ev
set_option linter.unusedSectionVars false
variable [Go.Ev.Frozen Tryz.prog]
end Go.Proofs.YthcldogebnjohaaGreatDoor
end

/- Moves that are written are read: plain Lean. -/
section
set_option maxRecDepth 100000
namespace Go.Proofs.YthcldogebnjohaaGreatDoor
open Go.Ev
set_option linter.unusedSectionVars false
variable [Go.Ev.Frozen Tryz.prog]
end Go.Proofs.YthcldogebnjohaaGreatDoor
end

/- What is read has just these bytes: plain Lean. -/
section
set_option maxRecDepth 100000
namespace Go.Proofs.YthcldogebnjohaaGreatDoor
open Go.Ev
set_option linter.unusedSectionVars false
variable [Go.Ev.Frozen Tryz.prog]
end Go.Proofs.YthcldogebnjohaaGreatDoor
end

/- Positions that are written: what is read of them never ends too early; two have the same bytes just if they are the same. Plain Lean. -/
section
set_option maxRecDepth 100000
namespace Go.Proofs.YthcldogebnjohaaGreatDoor
open Go.Ev
set_option linter.unusedSectionVars false
variable [Go.Ev.Frozen Tryz.prog]
theorem ext_getD {α : Type} (d : α) {xs ys : List α} (hl : xs.length = ys.length) (h : ∀ i, i < xs.length → xs.getD i d = ys.getD i d) : xs = ys := by
  apply List.ext_getElem hl
  intro i h1 h2
  have := h i h1
  simpa [List.getD, h1, h2] using this
end Go.Proofs.YthcldogebnjohaaGreatDoor
end
