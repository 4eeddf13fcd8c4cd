/- Quarrels over positions: what is told of within, Open, Claim, Of, the document's Same (what is to be shown). -/
import Derived.Test.YthnjebcablpneaaGreatDoorYenc
set_option maxRecDepth 100000
namespace Go.Proofs.YthnjebcablpneaaGreatDoor
open Go.Ev
-- keep num foldI dnum encV encG encT enc1 enc2 enc3 enc Go.Ev.Sli PH PW wthn
def wthn (n h v : Int) : Int := if (0 ≤ n ∧ n ≤ 1099511627776) ∧ (0 ≤ h ∧ h ≤ 1099511627776) ∧ 1 ≤ v ∧ v ≤ 1048576 then 0 else 2
structure N3 where
  n : Int
  h : Int
  v : Int
structure OA where
  n : Int
  h : Int
  v : Int
  p : PA
structure CA where
  q : Int
  n : Int
  h : Int
  v : Int
  p : PA
structure RN where
  n : Bool
  k : Nat
  c : List Value
structure OL where
  i : Int
  n : Bool
  l : Nat
  k : Nat
  c : List Value
structure P2 where
  a : PA
  b : PA
noncomputable section
def S_wthn : SpecD where
  f := 36
  α := N3
  args a := [tgI .i64 a.n, tgI .i64 a.h, tgI .i64 a.v]
  R _ := []
  n := 12
  pre _ := True
  outs := [⟨Unit, fun _ _ => True, fun a _ => tgI .i64 (wthn a.n a.h a.v), fun _ _ => [], fun _ _ => 12, fun _ _ => []⟩]
  pick _ _ := 0
  find l _ := some (⟨iv (lv l 0), iv (lv l 1), iv (lv l 2)⟩, [])
def G_wthn (a : N3) : Prop := fnW Tryz.prog E0 cw0 [] S_wthn.f (S_wthn.args a) (mem (S_wthn.R a) S_wthn.n) (endD Tryz.prog S_wthn a)
abbrev quar (n : Int) (l : List Value) (u : Int) : Value := .agg ⟨tgI .i64 n :: tgI .i64 n :: (l ++ [tgI .i64 u])⟩
abbrev pbCells (i : Nat) (a : PA) (b : PB) : List Value := [mnS i a.s1.n 0 a.s1.l b.b1.k, mnS (i + 1) a.s2.n 0 a.s2.l b.b2.k, mnS (i + 2) a.s3.n 0 a.s3.l b.b3.k, tgI .i64 a.r0, tgI .i64 a.r1, tgI .i64 a.r2, tgI .i64 a.r3, tgI .u64 a.r4]
abbrev pbR (i : Nat) (b : PB) : List (Nat × PO) := [(i, .f b.b1.c 21 (.grown b.b1.k)), (i + 1, .f b.b2.c 4 (.grown b.b2.k)), (i + 2, .f b.b3.c 53 (.grown b.b3.k))]
/-- The cells of a quarrel's position. -/
def quP (v : Value) : List Value := ((agv (lv (agv v) 0)).drop 2).take 3
def S_open : SpecD where
  f := 10
  α := OA
  args a := [tgI .i64 a.n, a.p.v 12, tgI .i64 a.h, tgI .i64 a.v]
  R a := a.p.R 12 53
  n := 12 + 3
  pre a := (∃ x, PH a.p x) ∧ (wthn a.n a.h a.v = 0 ∧ (a.p.s1.l ≤ 100 ∧ a.p.s2.l ≤ 100 ∧ a.p.s3.l ≤ 100))
  outs := [⟨PB, fun a b => ∀ x, PH a.p x → PH (b.pa a.p) x, fun a b => .tuple ⟨[quar a.n (pbCells (12 + 3) a.p b) (a.h + a.v), .int .i64 0]⟩, fun _ b => pbR (12 + 3) b, fun _ _ => 12 + 6, fun v _ => paN (12 + 3) (quP v)⟩]
  pick _ _ := 0
  find l A := some (⟨iv (lv l 0), iv (lv l 2), iv (lv l 3), paOf A (agv (lv l 1))⟩, paN 12 (agv (lv l 1)))
def G_open (a : OA) : Prop := fnW Tryz.prog E0 (cwD Tryz.prog S_wthn (cwD Tryz.prog S_clone cw0)) [] S_open.f (S_open.args a) (mem (S_open.R a) S_open.n) (endD Tryz.prog S_open a)
abbrev unk : Value := .iface UNK .nilIface
def S_claim : SpecD where
  f := 12
  α := CA
  args a := [.agg ⟨[tgI .i64 a.q, unk, unk, unk, unk, unk, unk, unk, unk, unk, unk]⟩, tgI .i64 a.n, a.p.v 12, tgI .i64 a.h, tgI .i64 a.v]
  R a := a.p.R 12 53
  n := 12 + 3
  pre a := (∃ x, PH a.p x) ∧ ((wthn a.n a.h a.v = 0 ∧ a.q < a.n) ∧ (a.p.s1.l ≤ 100 ∧ a.p.s2.l ≤ 100 ∧ a.p.s3.l ≤ 100))
  outs := [⟨PB, fun a b => ∀ x, PH a.p x → PH (b.pa a.p) x, fun a b => .tuple ⟨[quar a.n (pbCells (12 + 3) a.p b) (a.h + a.v), .int .i64 0]⟩, fun _ b => pbR (12 + 3) b, fun _ _ => 12 + 6, fun v _ => paN (12 + 3) (quP v)⟩]
  pick _ _ := 0
  find l A := some (⟨iv (lv (agv (lv l 0)) 0), iv (lv l 1), iv (lv l 3), iv (lv l 4), paOf A (agv (lv l 2))⟩, paN 12 (agv (lv l 2)))
def G_claim (a : CA) : Prop := fnW Tryz.prog E0 (cwD Tryz.prog S_wthn (cwD Tryz.prog S_open cw0)) [] S_claim.f (S_claim.args a) (mem (S_claim.R a) S_claim.n) (endD Tryz.prog S_claim a)
def S_of : SpecD where
  f := 9
  α := PA
  args a := [a.v 12]
  R a := a.R 12 53
  n := 12 + 3
  pre a := (∃ x, PH a x) ∧ a.s3.l ≤ 100
  outs := [⟨RN, fun a b => ∀ xs, Sli (Value.int .u8) 8 a.s3.n a.s3.o a.s3.l a.s3.k a.s3.c xs → Sli (Value.int .u8) 8 b.n 0 a.s3.l b.k b.c xs, fun a b => .agg ⟨a.s1.v 12 :: a.s2.v (12 + 1) :: mnS (12 + 3) b.n 0 a.s3.l b.k :: rolls a⟩, fun _ b => [(12 + 3, .f b.c 52 (.grown b.k))], fun _ _ => 12 + 4, fun v _ => renS (12 + 3) (lv (agv v) 2)⟩]
  pick _ _ := 0
  find l A := some (paOf A (agv (lv l 0)), paN 12 (agv (lv l 0)))
abbrev zeroP : List Value := [.slice none 0 0, .slice none 0 0, .slice none 0 0, .int .i64 0, .int .i64 0, .int .i64 0, .int .i64 0, .int .u64 0]
def ptrB (v : Value) : Nat := match v with
  | .pointer (some ⟨b, _, _⟩) => b
  | _ => 0
def la_of (a : PA) (xs : List Int) : LA where
  α := OL
  at_ e := ⟨[(1, .pointer (some ⟨12 + 3, 0, none⟩)), (2, .pointer (some ⟨12 + 4, 0, none⟩)), (3, .pointer (some ⟨12 + 5, 0, none⟩)), (4, tgI .i64 e.i)],
    (12 + 3, .p (.row (a.s1.v 12 :: a.s2.v (12 + 1) :: a.s3.v (12 + 2) :: rolls a) 29 .own)) :: (12 + 4, .p (.row zeroP 35 .own)) ::
    (12 + 5, .p (.row (a.s1.v 12 :: a.s2.v (12 + 1) :: mnS (12 + 6) e.n 0 e.l e.k :: rolls a) 35 .own)) :: (12 + 6, .f e.c 52 (.grown e.k)) :: a.R 12 53, 12 + 7⟩
  J e := (0 ≤ e.i ∧ e.i ≤ a.s3.l) ∧ (e.l = e.i.toNat ∧ Sli (Value.int .u8) 8 e.n 0 e.l e.k e.c (xs.take (8 * e.i.toNat)) ∧ (e.n = false → e.c.length = e.l * 8))
  μ e := (a.s3.l - e.i).toNat
  ren s := renP (12 + 3) (tv s 1) ++ (renP (12 + 4) (tv s 2) ++ (renP (12 + 5) (tv s 3) ++ renS (12 + 6) (lv (rowO s.A (ptrB (tv s 3))) 2)))
def G_of (a : PA) (xs : List Int) : Prop := fnW Tryz.prog E0 cw0 [some (la_of a xs)] S_of.f (S_of.args a) (mem (S_of.R a) S_of.n) (endD Tryz.prog S_of a)
def S_same17 : SpecD where
  f := 11
  α := P2
  args a := [a.a.v 12, a.b.v (12 + 3)]
  R a := a.a.R 12 52 ++ a.b.R (12 + 3) 52
  n := 12 + 6
  pre a := ((∃ x, PH a.a x ∧ PW a.a x) ∧ ∃ x, PH a.b x ∧ PW a.b x) ∧ ((a.a.s1.l ≤ 70 ∧ a.a.s2.l ≤ 10 ∧ a.a.s3.l ≤ 10) ∧ (a.b.s1.l ≤ 70 ∧ a.b.s2.l ≤ 10 ∧ a.b.s3.l ≤ 10))
  outs := [⟨BL, fun a b => ∀ x y, PH a.a x → PH a.b y → (b.b = true ↔ enc a.a x = enc a.b y), fun _ b => tg (.bool b.b), fun _ _ => [], fun _ _ => 12 + 6, fun _ _ => []⟩]
  pick _ _ := 0
  find l A := some (⟨paOf A (agv (lv l 0)), paOf A (agv (lv l 1))⟩, paN 12 (agv (lv l 0)) ++ paN (12 + 3) (agv (lv l 1)))
def G_same17 (a : P2) : Prop := fnW Tryz.prog E0 (cwD Tryz.prog S_enc (cwD Tryz.prog S_same cw0)) [] S_same17.f (S_same17.args a) (mem (S_same17.R a) S_same17.n) (endD Tryz.prog S_same17 a)
end
end Go.Proofs.YthnjebcablpneaaGreatDoor
