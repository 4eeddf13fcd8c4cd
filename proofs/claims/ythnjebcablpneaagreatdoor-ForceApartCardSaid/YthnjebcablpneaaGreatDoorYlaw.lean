/- The law that what is handed in stays: what is to be shown. -/
import Derived.Test.YthnjebcablpneaaGreatDoorYforP
import Derived.Test.YthnjebcablpneaaGreatDoorKnownA
set_option maxRecDepth 100000
namespace Go.Proofs.YthnjebcablpneaaGreatDoor
open Go.Ev
-- keep goodL Twin Ir num foldI dnum encV encG encT enc1 enc2 enc3 enc Go.Ev.Sli PH PW wthn cells0 cells1 cells2 cells4 cells5 cells6 cells8 cells9 cells10
structure AA where
  n : Int
  p : PA
/-- At the loops' heads: how far; the row that is written; what was; the quarrel's position. -/
structure LL where
  i : Int
  n : Bool
  l : Nat
  k : Nat
  c : List Value
  w : PA
  q : PA
  u : Int
/-- Numbers that a row holds at its head. -/
structure Ir (c : List Value) (l : Nat) : Prop where
  zs : ∃ zs, HI .i32 c 0 zs ∧ zs.length = l
  len : l ≤ c.length
  flat : FlatL c
/-- Two positions of one content. -/
structure Twin (a b : PA) : Prop where
  x : ∃ x, (PH a x ∧ PW a x) ∧ PH b x ∧ PW b x
  l : a.s3.l = b.s3.l
  r0 : a.r0 = b.r0
  r1 : a.r1 = b.r1
  r2 : a.r2 = b.r2
  r3 : a.r3 = b.r3
  r4 : a.r4 = b.r4
  b1 : a.s1.l ≤ 70 ∧ a.s2.l ≤ 10 ∧ a.s3.l ≤ 10
  b2 : b.s1.l ≤ 70 ∧ b.s2.l ≤ 10 ∧ b.s3.l ≤ 10
noncomputable section
def globR : List (Nat × PO) := [(0, .f cells0 330 .ro), (1, .f cells1 336 .ro), (2, .f cells2 337 .ro), (4, .f cells4 330 .ro), (5, .f cells5 369 .ro), (6, .f cells6 382 .ro), (8, .f cells8 386 .ro), (9, .f cells9 389 .ro), (10, .f cells10 390 .ro)]
def S_known : SpecD where
  f := 13
  α := Unit
  args _ := []
  R _ := globR
  n := 12
  pre _ := True
  outs := [⟨Unit, fun _ _ => True, fun _ _ => .bool true, fun _ _ => [], fun _ _ => 12, fun _ _ => []⟩]
  pick _ _ := 0
  find _ _ := some ((), [])
def S_apart : SpecD where
  f := 3
  α := AA
  args a := [a.p.v 12, tgI .u16 a.n]
  R a := a.p.R 12 53 ++ globR
  n := 12 + 3
  pre a := (∃ x, PH a.p x ∧ PW a.p x) ∧ (0 ≤ a.n ∧ a.n ≤ 65535)
  outs := [⟨Unit, fun _ _ => True, fun _ _ => .bool true, fun _ _ => [], fun _ _ => 12 + 3, fun _ _ => []⟩]
  pick _ _ := 0
  find l A := some (⟨iv (lv l 1), paOf A (agv (lv l 0))⟩, paN 12 (agv (lv l 0)))
abbrev wasR (a : PA) (i : Nat) (e : TypeId) : List (Nat × PO) := [(i, .f a.s1.c 21 .gro), (i + 1, .f a.s2.c 4 .gro), (i + 2, .f a.s3.c e .gro)]
def rp (s : St) (t : Nat) (i : Nat) : Value := lv (rowO s.A (ptrB (tv s t))) i
/-- What stays at both loops' heads. -/
def stayR (a : LL) (n : Int) : List (Nat × PO) :=
  (12 + 5, .p (.row (a.w.s1.v (12 + 6) :: a.w.s2.v (12 + 7) :: a.w.s3.v (12 + 8) :: rolls a.w) 35 .own)) ::
  (12 + 9, .p (.row (tgI .i64 n :: tgI .i64 n :: a.q.s1.v (12 + 10) :: a.q.s2.v (12 + 11) :: a.q.s3.v (12 + 12) :: (rolls a.q ++ [tgI .i64 a.u])) 38 .own)) ::
  (wasR a.w (12 + 6) 52 ++ (wasR a.q (12 + 10) 53 ++ globR))
def stayN (s : St) : List (Nat × Nat) := renP (12 + 5) (tv s 5) ++ (renS (12 + 6) (rp s 5 0) ++ (renS (12 + 7) (rp s 5 1) ++ (renS (12 + 8) (rp s 5 2) ++ (renP (12 + 9) (tv s 6) ++ (renS (12 + 10) (rp s 6 2) ++ (renS (12 + 11) (rp s 6 3) ++ renS (12 + 12) (rp s 6 4)))))))
def goodL (e : LL) : Prop := (0 ≤ e.i ∧ e.i ≤ e.l) ∧ ((e.l ≤ 70 ∧ e.l ≤ e.k) ∧ (Ir e.c e.l ∧ Twin e.q e.w))
def la_a1 (n : Int) : LA where
  α := LL
  at_ e := ⟨[(1, tgI .u16 n), (2, .pointer (some ⟨12 + 3, 0, none⟩)), (5, .pointer (some ⟨12 + 5, 0, none⟩)), (6, .pointer (some ⟨12 + 9, 0, none⟩)), (8, tgI .i64 e.i)],
    (12 + 3, .p (.row [tgS (12 + 4) 0 e.l e.k, unk, unk, unk, unk, unk, unk, unk] 29 .own)) :: (12 + 4, .f e.c 21 (.grown e.k)) :: stayR e n, 12 + 13⟩
  J e := goodL e
  μ e := (e.l - e.i).toNat
  ren s := renP (12 + 3) (tv s 2) ++ (renS (12 + 4) (rp s 2 0) ++ stayN s)
def la_a2 (n : Int) : LA where
  α := LL
  at_ e := ⟨[(5, .pointer (some ⟨12 + 5, 0, none⟩)), (6, .pointer (some ⟨12 + 9, 0, none⟩)), (9, .pointer (some ⟨12 + 3, 0, none⟩)), (10, .int .i64 0), (11, tgI .i64 e.i)],
    (12 + 3, .p (.row [unk, unk, mnS (12 + 4) e.n 0 e.l e.k, unk, unk, unk, unk, unk, unk, unk, unk] 38 .own)) :: (12 + 4, .f e.c 21 (.grown e.k)) :: stayR e n, 12 + 13⟩
  J e := goodL e
  μ e := (e.l - e.i).toNat
  ren s := renP (12 + 3) (tv s 9) ++ (renS (12 + 4) (rp s 9 2) ++ stayN s)
def cwApart : CW := cwD Tryz.prog S_cut (cwD Tryz.prog S_clone (cwD Tryz.prog S_of (cwD Tryz.prog S_open (cwD Tryz.prog S_claim (cwD Tryz.prog S_same17 (cwD Tryz.prog S_known cw0))))))
def G_apart (a : AA) : Prop := fnW Tryz.prog E0 cwApart [some (la_a1 a.n), some (la_a2 a.n)] S_apart.f (S_apart.args a) (mem (S_apart.R a) S_apart.n) (endD Tryz.prog S_apart a)
end
end Go.Proofs.YthnjebcablpneaaGreatDoor
