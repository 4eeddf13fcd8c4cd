/- Moves: what is told of their bytes, and of what is read (what is to be shown). -/
import Derived.Test.YtalbjjimnhldfaaGreatDoorYrdM
section
set_option maxRecDepth 100000
namespace Go.Proofs.YtalbjjimnhldfaaGreatDoor
open Go.Ev
-- keep num foldI dnum frm Go.Ev.Sli lookN Byts8 valN lead rdC wdC wsC decM endC unfI OwB Go.Ev.HV LC encM encMk encV MH RI q2C
structure WR where
  at_ : Int
  e : Int
  w : Int
def wdC (bs : List Int) (p e : Int) : WR := if (rdC bs p e 18446744073709551615).e = 0 ∧ (unfI (rdC bs p e 18446744073709551615).n < -2147483648 ∨ 2147483647 < unfI (rdC bs p e 18446744073709551615).n) then ⟨p, 2, 0⟩
  else ⟨(rdC bs p e 18446744073709551615).at_, (rdC bs p e 18446744073709551615).e, IntKind.wrap .i32 (unfI (rdC bs p e 18446744073709551615).n)⟩
structure LW where
  at_ : Int
  e : Int
  ws : List Int
def wsC (bs : List Int) : Nat → Int → Int → LW
  | 0, p, e => ⟨p, e, []⟩
  | n + 1, p, e => if e ≠ 0 then ⟨p, e, []⟩ else ⟨(wsC bs n (wdC bs p e).at_ (wdC bs p e).e).at_, (wsC bs n (wdC bs p e).at_ (wdC bs p e).e).e, (wdC bs p e).w :: (wsC bs n (wdC bs p e).at_ (wdC bs p e).e).ws⟩
def endC (bs : List Int) (p e : Int) : Int := if e = 0 ∧ p < bs.length then 5 else e
structure DM where
  e : Int
  t : Bool
  xs : List Int
  d : D8
def d80 : D8 := ⟨0, 0, 0, 0, 0, 0, 0, 0⟩
def decM (bs : List Int) : DM :=
  if (rdC bs 0 0 1).n = 1 then
    ⟨endC bs (rdC bs (rdC bs 0 0 1).at_ (rdC bs 0 0 1).e 18446744073709551615).at_ (rdC bs (rdC bs 0 0 1).at_ (rdC bs 0 0 1).e 18446744073709551615).e, true, [], frm (rdC bs (rdC bs 0 0 1).at_ (rdC bs 0 0 1).e 18446744073709551615).n⟩
  else
    ⟨endC bs (wsC bs (rdC bs (rdC bs 0 0 1).at_ (rdC bs 0 0 1).e 4).n.toNat (rdC bs (rdC bs 0 0 1).at_ (rdC bs 0 0 1).e 4).at_ (rdC bs (rdC bs 0 0 1).at_ (rdC bs 0 0 1).e 4).e).at_ (wsC bs (rdC bs (rdC bs 0 0 1).at_ (rdC bs 0 0 1).e 4).n.toNat (rdC bs (rdC bs 0 0 1).at_ (rdC bs 0 0 1).e 4).at_ (rdC bs (rdC bs 0 0 1).at_ (rdC bs 0 0 1).e 4).e).e, false,
      (wsC bs (rdC bs (rdC bs 0 0 1).at_ (rdC bs 0 0 1).e 4).n.toNat (rdC bs (rdC bs 0 0 1).at_ (rdC bs 0 0 1).e 4).at_ (rdC bs (rdC bs 0 0 1).at_ (rdC bs 0 0 1).e 4).e).ws, d80⟩
structure SN where
  n : Bool
  l : Nat
  k : Nat
  c : List Value
structure LC (s : SN) (ys : List Int) : Prop where
  he : HE .i32 s.c ys
  l : s.l = ys.length
  le : s.l ≤ s.k
  nil : s.n = true → ys = [] ∧ s.k = 0
structure MA where
  t : Bool
  s : SA
  d : D8
structure MH (a : MA) (xs : List Int) : Prop where
  sl : Sli (Value.int .i32) 1 a.s.n a.s.o a.s.l a.s.k a.s.c xs
  w : ∀ n ∈ xs, -2147483648 ≤ n ∧ n ≤ 2147483647
  d : a.d.Ok
def encM (t : Bool) (xs : List Int) (d : D8) : List Int := if t then num 1 ++ num (dnum d.l).toNat else num 0 ++ num xs.length ++ encV xs xs.length
def encMk (xs : List Int) (k : Nat) : List Int := num 0 ++ num xs.length ++ encV xs k
structure EM where
  i : Int
  b : OW
structure WS where
  at_ : Int
  re : Int
  e : Int
  s : SN
structure WL where
  at_ : Int
  e : Int
  n : Int
  i : Int
  s : SN
structure EE where
  e : Int
noncomputable section
abbrev SN.v (s : SN) (i : Nat) : Value := mnS i s.n 0 s.l s.k
abbrev D8.c (d : D8) : List Value := [tgI .u8 d.d0, tgI .u8 d.d1, tgI .u8 d.d2, tgI .u8 d.d3, tgI .u8 d.d4, tgI .u8 d.d5, tgI .u8 d.d6, tgI .u8 d.d7]
abbrev MA.c (a : MA) (i : Nat) : List Value := tg (.bool a.t) :: a.s.v i :: a.d.c
abbrev MA.v (a : MA) (i : Nat) : Value := .agg ⟨a.c i⟩
abbrev MA.R (a : MA) (i : Nat) : List (Nat × PO) := [(i, .f a.s.c 21 .gro)]
def S_word1 : SpecD where
  f := 65
  α := RA
  args a := [.agg ⟨[a.s.v 12, tgI .i64 a.at_, tgI .i64 a.e]⟩]
  R a := [(12, .f a.s.c 5 .ro)]
  n := 12 + 1
  pre a := (∃ xs, RI a xs) ∧ a.s.l ≤ 1000000
  outs := [⟨WR, fun a b => ∀ xs, RI a xs → b = wdC xs a.at_ a.e, fun a b => .tuple ⟨[.agg ⟨[a.s.v 12, tgI .i64 b.at_, tgI .i64 b.e]⟩, tgI .i32 b.w]⟩, fun _ _ => [], fun _ _ => 12 + 1, fun _ _ => []⟩]
  pick _ _ := 0
  find l A := saK A 12 (lv (agv (lv l 0)) 0) fun s r => wI (lv (agv (lv l 0)) 1) fun p => wI (lv (agv (lv l 0)) 2) fun e => some (⟨s, p, e, 0⟩, r)
def S_words : SpecD where
  f := 61
  α := RA
  args a := [.pointer (some ⟨12, 0, none⟩), tgI .u64 a.m]
  R a := rdR a.s a.at_ a.e
  n := 12 + 2
  pre a := (∃ xs, RI a xs) ∧ (a.s.n = false ∧ a.s.o = 0) ∧ a.s.l ≤ 1000000 ∧ a.m ≤ 1000
  outs := [⟨WS, fun a b => ∀ xs, RI a xs → b.e = (wsC xs (rdC xs a.at_ a.e a.m).n.toNat (rdC xs a.at_ a.e a.m).at_ (rdC xs a.at_ a.e a.m).e).e ∧ (b.e = 0 → b.re = 0 ∧ b.at_ = (wsC xs (rdC xs a.at_ a.e a.m).n.toNat (rdC xs a.at_ a.e a.m).at_ (rdC xs a.at_ a.e a.m).e).at_ ∧ LC b.s (wsC xs (rdC xs a.at_ a.e a.m).n.toNat (rdC xs a.at_ a.e a.m).at_ (rdC xs a.at_ a.e a.m).e).ws),
    fun _ b => .tuple ⟨[b.s.v (12 + 2), tgI .i64 b.e]⟩, fun a b => rdR a.s b.at_ b.re ++ [(12 + 2, .f b.s.c 21 (.grown b.s.k))], fun _ _ => 12 + 3, fun v _ => renS (12 + 2) (lv (agv v) 0)⟩]
  pick _ _ := 0
  find l A := raK A (lv l 0) (lv l 1) fun a r => some (a, r)
def la_words (a : RA) (xs : List Int) : LA where
  α := WL
  at_ e := ⟨[(0, .pointer (some ⟨12, 0, none⟩)), (6, e.s.v (12 + 2)), (10, tgI .u64 e.n), (11, tgI .u64 e.i)], rdR a.s e.at_ e.e ++ [(12 + 2, .f e.s.c 21 (.grown e.s.k))], 12 + 3⟩
  J e := ((0 ≤ e.i ∧ e.i ≤ e.n) ∧ e.n = (rdC xs a.at_ a.e a.m).n ∧ (0 ≤ e.at_ ∧ e.at_ ≤ a.s.l)) ∧ ∃ ys, LC e.s ys ∧ (ys.length : Int) = e.i ∧
    (e.e = 0 → (wsC xs (rdC xs a.at_ a.e a.m).n.toNat (rdC xs a.at_ a.e a.m).at_ (rdC xs a.at_ a.e a.m).e) = ⟨(wsC xs (e.n - e.i).toNat e.at_ 0).at_, (wsC xs (e.n - e.i).toNat e.at_ 0).e, ys ++ (wsC xs (e.n - e.i).toNat e.at_ 0).ws⟩) ∧
    (e.e ≠ 0 → (wsC xs (rdC xs a.at_ a.e a.m).n.toNat (rdC xs a.at_ a.e a.m).at_ (rdC xs a.at_ a.e a.m).e).e = e.e)
  μ e := (e.n - e.i).toNat
  ren s := renS (12 + 2) (tv s 6)
def G_words (a : RA) (xs : List Int) : Prop := fnW Tryz.prog E0 (cwN (fun c => cwD Tryz.prog S_rnum (cwD Tryz.prog S_rint c)) 2) [some (la_words a xs)] S_words.f (S_words.args a) (mem (S_words.R a) S_words.n) (endD Tryz.prog S_words a)
def errPick (v : Value) : Nat := match lv (agv v) 1 with
  | .int _ (.ofNat 0) => 0
  | _ => 1
def q2C (bs : List Int) : RR := rdC bs (rdC bs 0 0 1).at_ (rdC bs 0 0 1).e 4
end
end Go.Proofs.YtalbjjimnhldfaaGreatDoor
end

/- Moves: what is told of their bytes, and of what is read, is so. -/
section
set_option maxRecDepth 100000
namespace Go.Proofs.YtalbjjimnhldfaaGreatDoor
open Go.Ev
set_option maxHeartbeats 3200000 in
theorem vc_words (a : RA) (xs : List Int) : G_words a xs = ((True ∧ (∃ (x0 : List Int), RI (RA.mk (SA.mk false 0 a.1.3 a.1.4 a.1.5) a.2 a.3 a.4) x0) ∧ (false = false ∧ nat_lit 0 = 0) ∧ a.1.3 ≤ 1000000) ∧ ((0 = 0 ∧ a.4 = a.4 ∧ True) ∧ (True
∧ (0 = 0 ∧ a.1.3 = a.1.3 ∧ a.1.4 = a.1.4) ∧ a.2 = a.2 ∧ a.3 = a.3 ∧ True) ∧ ZF a.1.5 ∧ True) ∧ (∀ (x1 : RR), (∀ (x2 : List Int), RI (RA.mk (SA.mk false 0 a.1.3 a.1.4 a.1.5) a.2 a.3
a.4) x2 → x1 = rdC x2 a.2 a.3 a.4) → ∃ (x3 : WL), (((0 ≤ x3.4 ∧ x3.4 ≤ x3.3) ∧ x3.3 = (rdC xs a.2 a.3 a.4).3 ∧ 0 ≤ x3.1 ∧ x3.1 ≤ (↑a.1.3 : Int)) ∧ ∃ (x4 : List Int), LC x3.5 x4 ∧
(↑(List.length x4) : Int) = x3.4 ∧ (x3.2 = 0 → wsC xs (Int.toNat (rdC xs a.2 a.3 a.4).3) (rdC xs a.2 a.3 a.4).1 (rdC xs a.2 a.3 a.4).2 = LW.mk (wsC xs (Int.toNat (x3.3 - x3.4))
x3.1 (0 : Int)).1 (wsC xs (Int.toNat (x3.3 - x3.4)) x3.1 (0 : Int)).2 (x4 ++ (wsC xs (Int.toNat (x3.3 - x3.4)) x3.1 (0 : Int)).3)) ∧ (x3.2 ≠ 0 → (wsC xs (Int.toNat (rdC xs a.2 a.3
a.4).3) (rdC xs a.2 a.3 a.4).1 (rdC xs a.2 a.3 a.4).2).2 = x3.2)) ∧ ((0 = 0 ∧ (x3.5.1 = true ∧ x3.5.2 = 0 ∧ x3.5.3 = 0) ∧ x3.3 = x1.3 ∧ x3.4 = 0 ∧ True) ∧ ((True ∧ (0 = 0 ∧ a.1.3 =
a.1.3 ∧ a.1.4 = a.1.4) ∧ x3.1 = x1.1 ∧ x3.2 = x1.2 ∧ True) ∧ ZF a.1.5 ∧ (FlatL x3.5.4 ∧ True) ∧ True) ∧ True) ∧ ∀ (x5 : WL), (((0 ≤ x5.4 ∧ x5.4 ≤ x5.3) ∧ x5.3 = (rdC xs a.2 a.3
a.4).3 ∧ 0 ≤ x5.1 ∧ x5.1 ≤ (↑a.1.3 : Int)) ∧ ∃ (x6 : List Int), LC x5.5 x6 ∧ (↑(List.length x6) : Int) = x5.4 ∧ (x5.2 = 0 → wsC xs (Int.toNat (rdC xs a.2 a.3 a.4).3) (rdC xs a.2
a.3 a.4).1 (rdC xs a.2 a.3 a.4).2 = LW.mk (wsC xs (Int.toNat (x5.3 - x5.4)) x5.1 (0 : Int)).1 (wsC xs (Int.toNat (x5.3 - x5.4)) x5.1 (0 : Int)).2 (x6 ++ (wsC xs (Int.toNat (x5.3 -
x5.4)) x5.1 (0 : Int)).3)) ∧ (x5.2 ≠ 0 → (wsC xs (Int.toNat (rdC xs a.2 a.3 a.4).3) (rdC xs a.2 a.3 a.4).1 (rdC xs a.2 a.3 a.4).2).2 = x5.2)) → (x5.4 < x5.3 → (True ∧ (∃ (x7 : List
Int), RI (RA.mk (SA.mk false 0 a.1.3 a.1.4 a.1.5) x5.1 x5.2 (18446744073709551615 : Int)) x7) ∧ (false = false ∧ nat_lit 0 = 0 ∧ Int.ofNat 18446744073709551615 =
(18446744073709551615 : Int)) ∧ a.1.3 ≤ 1000000) ∧ ((0 = 0 ∧ True) ∧ (True ∧ (0 = 0 ∧ a.1.3 = a.1.3 ∧ a.1.4 = a.1.4) ∧ x5.1 = x5.1 ∧ x5.2 = x5.2 ∧ True) ∧ ZF a.1.5 ∧ True) ∧ (∀ (x8
: RR), (∀ (x9 : List Int), RI (RA.mk (SA.mk false 0 a.1.3 a.1.4 a.1.5) x5.1 x5.2 (18446744073709551615 : Int)) x9 → x8 = rdC x9 x5.1 x5.2 (Int.ofNat 18446744073709551615)) → (unfI
x8.3 < -2147483648 → ∃ (x10 : WS), (∀ (x11 : List Int), RI a x11 → x10.3 = (wsC x11 (Int.toNat (rdC x11 a.2 a.3 a.4).3) (rdC x11 a.2 a.3 a.4).1 (rdC x11 a.2 a.3 a.4).2).2 ∧ (x10.3
= 0 → x10.2 = 0 ∧ x10.1 = (wsC x11 (Int.toNat (rdC x11 a.2 a.3 a.4).3) (rdC x11 a.2 a.3 a.4).1 (rdC x11 a.2 a.3 a.4).2).1 ∧ LC x10.4 (wsC x11 (Int.toNat (rdC x11 a.2 a.3 a.4).3)
(rdC x11 a.2 a.3 a.4).1 (rdC x11 a.2 a.3 a.4).2).3)) ∧ ((x10.4.1 = true ∧ x10.4.2 = 0 ∧ x10.4.3 = 0) ∧ x10.3 = 2 ∧ True) ∧ (True ∧ (0 = 0 ∧ a.1.3 = a.1.3 ∧ a.1.4 = a.1.4) ∧ x10.1 =
x8.1 ∧ x10.2 = x8.2 ∧ True) ∧ ZF a.1.5 ∧ (FlatL x10.4.4 ∧ True) ∧ True) ∧ (¬unfI x8.3 < -2147483648 → ((2147483647 : Int) < unfI x8.3 → ∃ (x12 : WS), (∀ (x13 : List Int), RI a x13
→ x12.3 = (wsC x13 (Int.toNat (rdC x13 a.2 a.3 a.4).3) (rdC x13 a.2 a.3 a.4).1 (rdC x13 a.2 a.3 a.4).2).2 ∧ (x12.3 = 0 → x12.2 = 0 ∧ x12.1 = (wsC x13 (Int.toNat (rdC x13 a.2 a.3
a.4).3) (rdC x13 a.2 a.3 a.4).1 (rdC x13 a.2 a.3 a.4).2).1 ∧ LC x12.4 (wsC x13 (Int.toNat (rdC x13 a.2 a.3 a.4).3) (rdC x13 a.2 a.3 a.4).1 (rdC x13 a.2 a.3 a.4).2).3)) ∧ ((x12.4.1
= true ∧ x12.4.2 = 0 ∧ x12.4.3 = 0) ∧ x12.3 = 2 ∧ True) ∧ (True ∧ (0 = 0 ∧ a.1.3 = a.1.3 ∧ a.1.4 = a.1.4) ∧ x12.1 = x8.1 ∧ x12.2 = x8.2 ∧ True) ∧ ZF a.1.5 ∧ (FlatL x12.4.4 ∧ True)
∧ True) ∧ (¬(2147483647 : Int) < unfI x8.3 → ∀ x14, x14 = IntKind.wrap .i32 (unfI x8.3) → (x5.5.1 = true → 1 ≤ List.length [Value.iface 1000000007 (Value.int IntKind.i32 x14)] ∧ ∀
(x15 : List Value), x15 = lwin [Value.iface 1000000007 (Value.int IntKind.i32 x14)] 0 1 → (1 = 0 → ∀ x16, x16 = IntKind.wrap .u64 (x5.4 + (1 : Int)) → ∃ (x17 : WL), (((0 ≤ x17.4 ∧
x17.4 ≤ x17.3) ∧ x17.3 = (rdC xs a.2 a.3 a.4).3 ∧ 0 ≤ x17.1 ∧ x17.1 ≤ (↑a.1.3 : Int)) ∧ ∃ (x18 : List Int), LC x17.5 x18 ∧ (↑(List.length x18) : Int) = x17.4 ∧ (x17.2 = 0 → wsC xs
(Int.toNat (rdC xs a.2 a.3 a.4).3) (rdC xs a.2 a.3 a.4).1 (rdC xs a.2 a.3 a.4).2 = LW.mk (wsC xs (Int.toNat (x17.3 - x17.4)) x17.1 (0 : Int)).1 (wsC xs (Int.toNat (x17.3 - x17.4))
x17.1 (0 : Int)).2 (x18 ++ (wsC xs (Int.toNat (x17.3 - x17.4)) x17.1 (0 : Int)).3)) ∧ (x17.2 ≠ 0 → (wsC xs (Int.toNat (rdC xs a.2 a.3 a.4).3) (rdC xs a.2 a.3 a.4).1 (rdC xs a.2 a.3
a.4).2).2 = x17.2)) ∧ Int.toNat (x17.3 - x17.4) < Int.toNat (x5.3 - x5.4) ∧ (0 = 0 ∧ (x17.5.1 = true ∧ x17.5.2 = 0 ∧ x17.5.3 = 0) ∧ x17.3 = x5.3 ∧ x17.4 = x16 ∧ True) ∧ ((True ∧ (0
= 0 ∧ a.1.3 = a.1.3 ∧ a.1.4 = a.1.4) ∧ x17.1 = x8.1 ∧ x17.2 = x8.2 ∧ True) ∧ ZF a.1.5 ∧ (FlatL x17.5.4 ∧ True) ∧ True) ∧ True) ∧ (1 ≠ 0 → Few 1 4 ∧ ∀ x19, x19 = IntKind.wrap .u64
(x5.4 + (1 : Int)) → ∃ (x20 : WL), (((0 ≤ x20.4 ∧ x20.4 ≤ x20.3) ∧ x20.3 = (rdC xs a.2 a.3 a.4).3 ∧ 0 ≤ x20.1 ∧ x20.1 ≤ (↑a.1.3 : Int)) ∧ ∃ (x21 : List Int), LC x20.5 x21 ∧
(↑(List.length x21) : Int) = x20.4 ∧ (x20.2 = 0 → wsC xs (Int.toNat (rdC xs a.2 a.3 a.4).3) (rdC xs a.2 a.3 a.4).1 (rdC xs a.2 a.3 a.4).2 = LW.mk (wsC xs (Int.toNat (x20.3 -
x20.4)) x20.1 (0 : Int)).1 (wsC xs (Int.toNat (x20.3 - x20.4)) x20.1 (0 : Int)).2 (x21 ++ (wsC xs (Int.toNat (x20.3 - x20.4)) x20.1 (0 : Int)).3)) ∧ (x20.2 ≠ 0 → (wsC xs (Int.toNat
(rdC xs a.2 a.3 a.4).3) (rdC xs a.2 a.3 a.4).1 (rdC xs a.2 a.3 a.4).2).2 = x20.2)) ∧ Int.toNat (x20.3 - x20.4) < Int.toNat (x5.3 - x5.4) ∧ (0 = 0 ∧ (x20.5.1 = false ∧ 0 = 0 ∧
x20.5.2 = 1 ∧ x20.5.3 = 1) ∧ x20.3 = x5.3 ∧ x20.4 = x19 ∧ True) ∧ ((True ∧ (0 = 0 ∧ a.1.3 = a.1.3 ∧ a.1.4 = a.1.4) ∧ x20.1 = x8.1 ∧ x20.2 = x8.2 ∧ True) ∧ ZF a.1.5 ∧ (x20.5.3 = 1 ∧
FlatL x20.5.4 ∧ x20.5.4 = x15) ∧ True) ∧ True)) ∧ (x5.5.1 = false → 1 ≤ List.length [Value.iface 1000000007 (Value.int IntKind.i32 x14)] ∧ ∀ (x22 : List Value), x22 = lwin
[Value.iface 1000000007 (Value.int IntKind.i32 x14)] 0 1 → (0 = 0 ∧ List.length x5.5.4 = x5.5.2 * 1 ∧ x5.5.3 = x5.5.3 ∧ x5.5.2 ≤ x5.5.3 ∧ Few (x5.5.2 + 1) 4 ∧ lall oneK x22 = true)
∧ ∀ (x23 x24 : Nat), x23 = x5.5.2 + 1 → (x24 = if x23 ≤ SN.k (WL.s x5) then x5.5.3 else x23) → ∀ x25, x25 = IntKind.wrap .u64 (x5.4 + (1 : Int)) → ∃ (x26 : WL), (((0 ≤ x26.4 ∧
x26.4 ≤ x26.3) ∧ x26.3 = (rdC xs a.2 a.3 a.4).3 ∧ 0 ≤ x26.1 ∧ x26.1 ≤ (↑a.1.3 : Int)) ∧ ∃ (x27 : List Int), LC x26.5 x27 ∧ (↑(List.length x27) : Int) = x26.4 ∧ (x26.2 = 0 → wsC xs
(Int.toNat (rdC xs a.2 a.3 a.4).3) (rdC xs a.2 a.3 a.4).1 (rdC xs a.2 a.3 a.4).2 = LW.mk (wsC xs (Int.toNat (x26.3 - x26.4)) x26.1 (0 : Int)).1 (wsC xs (Int.toNat (x26.3 - x26.4))
x26.1 (0 : Int)).2 (x27 ++ (wsC xs (Int.toNat (x26.3 - x26.4)) x26.1 (0 : Int)).3)) ∧ (x26.2 ≠ 0 → (wsC xs (Int.toNat (rdC xs a.2 a.3 a.4).3) (rdC xs a.2 a.3 a.4).1 (rdC xs a.2 a.3
a.4).2).2 = x26.2)) ∧ Int.toNat (x26.3 - x26.4) < Int.toNat (x5.3 - x5.4) ∧ (0 = 0 ∧ (x26.5.1 = false ∧ 0 = 0 ∧ x26.5.2 = x23 ∧ x26.5.3 = x24) ∧ x26.3 = x5.3 ∧ x26.4 = x25 ∧ True)
∧ ((True ∧ (0 = 0 ∧ a.1.3 = a.1.3 ∧ a.1.4 = a.1.4) ∧ x26.1 = x8.1 ∧ x26.2 = x8.2 ∧ True) ∧ ZF a.1.5 ∧ (x26.5.3 = x24 ∧ FlatL x26.5.4 ∧ x26.5.4 = x5.5.4 ++ x22) ∧ True) ∧ True)))) ∧
True) ∧ (¬x5.4 < x5.3 → ∃ (x28 : WS), (∀ (x29 : List Int), RI a x29 → x28.3 = (wsC x29 (Int.toNat (rdC x29 a.2 a.3 a.4).3) (rdC x29 a.2 a.3 a.4).1 (rdC x29 a.2 a.3 a.4).2).2 ∧
(x28.3 = 0 → x28.2 = 0 ∧ x28.1 = (wsC x29 (Int.toNat (rdC x29 a.2 a.3 a.4).3) (rdC x29 a.2 a.3 a.4).1 (rdC x29 a.2 a.3 a.4).2).1 ∧ LC x28.4 (wsC x29 (Int.toNat (rdC x29 a.2 a.3
a.4).3) (rdC x29 a.2 a.3 a.4).1 (rdC x29 a.2 a.3 a.4).2).3)) ∧ ((x28.4.1 = x5.5.1 ∧ 0 = 0 ∧ x28.4.2 = x5.5.2 ∧ x28.4.3 = x5.5.3) ∧ x28.3 = x5.2 ∧ True) ∧ (True ∧ (0 = 0 ∧ a.1.3 =
a.1.3 ∧ a.1.4 = a.1.4) ∧ x28.1 = x5.1 ∧ x28.2 = x5.2 ∧ True) ∧ ZF a.1.5 ∧ (x28.4.3 = x5.5.3 ∧ FlatL x28.4.4 ∧ x28.4.4 = x5.5.4) ∧ True)) ∧ True) := by kernel_rfl
theorem wrap_i32' (x : Int) : IntKind.wrap .i32 x = (x + 2147483648) % 4294967296 - 2147483648 := wrap_i32 x
theorem wdC_bad {bs : List Int} {p e : Int} (h : (rdC bs p e 18446744073709551615).e = 0 ∧ (unfI (rdC bs p e 18446744073709551615).n < -2147483648 ∨ 2147483647 < unfI (rdC bs p e 18446744073709551615).n)) : wdC bs p e = ⟨p, 2, 0⟩ := by unfold wdC; rw [if_pos h]
theorem wdC_ok {bs : List Int} {p e : Int} (h : ¬ ((rdC bs p e 18446744073709551615).e = 0 ∧ (unfI (rdC bs p e 18446744073709551615).n < -2147483648 ∨ 2147483647 < unfI (rdC bs p e 18446744073709551615).n))) :
    wdC bs p e = ⟨(rdC bs p e 18446744073709551615).at_, (rdC bs p e 18446744073709551615).e, IntKind.wrap .i32 (unfI (rdC bs p e 18446744073709551615).n)⟩ := by unfold wdC; rw [if_neg h]
theorem RI.with {a : RA} {xs : List Int} (h : RI a xs) {p e m : Int} (h0 : 0 ≤ p) (h1 : p ≤ a.s.l) (m0 : 0 ≤ m) (m1 : m < 18446744073709551616) : RI ⟨a.s, p, e, m⟩ xs := ⟨h.sl, h.by_, h0, h1, m0, m1⟩
theorem wsC_ne (bs : List Int) (n : Nat) (p : Int) {e : Int} (h : e ≠ 0) : wsC bs n p e = ⟨p, e, []⟩ := by
  cases n with
  | zero => rfl
  | succ n => unfold wsC; rw [if_pos h]
theorem wsC_succ (bs : List Int) (n : Nat) (p : Int) : wsC bs (n + 1) p 0 = ⟨(wsC bs n (wdC bs p 0).at_ (wdC bs p 0).e).at_, (wsC bs n (wdC bs p 0).at_ (wdC bs p 0).e).e, (wdC bs p 0).w :: (wsC bs n (wdC bs p 0).at_ (wdC bs p 0).e).ws⟩ := by
  rw [wsC, if_neg (by simp)]
theorem rdC_err {bs : List Int} {p e m : Int} (h : (rdC bs p e m).e ≠ 0) : (rdC bs p e m).n = 0 := by
  by_cases h1 : e ≠ 0
  · rw [rdC_ne h1]
  by_cases h2 : (lookN (bs.drop p.toNat)).e ≠ 0
  · rw [rdC_bad h1 h2]
  by_cases h3 : m < (lookN (bs.drop p.toNat)).n
  · rw [rdC_big h1 h2 h3]
  · rw [rdC_ok h1 h2 h3] at h; exact absurd rfl h
theorem unf0 : unfI 0 = 0 := by decide
theorem ws_step {bs ys : List Int} {T : LW} {p e n i z x : Int} {r : RR} (h1 : e = 0 → T = ⟨(wsC bs (n - i).toNat p 0).at_, (wsC bs (n - i).toNat p 0).e, ys ++ (wsC bs (n - i).toNat p 0).ws⟩) (h2 : e ≠ 0 → T.e = e) (hlt : i < n) (hr : r = rdC bs p e 18446744073709551615)
    (lo : ¬ unfI r.n < -2147483648) (hi : ¬ 2147483647 < unfI r.n) (hx : x = IntKind.wrap .i32 (unfI r.n)) (hz : z = i + 1) :
    (r.e = 0 → T = ⟨(wsC bs (n - z).toNat r.at_ 0).at_, (wsC bs (n - z).toNat r.at_ 0).e, (ys ++ [x]) ++ (wsC bs (n - z).toNat r.at_ 0).ws⟩) ∧ (r.e ≠ 0 → T.e = r.e) := by
  by_cases he : e = 0
  · subst he
    have hT := h1 rfl
    have hw : wdC bs p 0 = ⟨r.at_, r.e, x⟩ := by
      rw [wdC_ok (by rw [← hr]; rintro ⟨_, h | h⟩; exact lo h; exact hi h), ← hr, hx]
    rw [show (n - i).toNat = (n - z).toNat + 1 by omega, wsC_succ, hw] at hT
    refine ⟨fun h0 => ?_, fun h0 => ?_⟩
    · rw [hT, h0]; simp
    · rw [hT]
      show (wsC bs (n - z).toNat r.at_ r.e).e = r.e
      rw [wsC_ne _ _ _ h0]
  · have hre : r.e = e := by rw [hr, rdC_ne he]
    exact ⟨fun h0 => absurd (hre.symm.trans h0) he, fun _ => by rw [hre]; exact h2 he⟩
theorem ws_bad {bs ys : List Int} {T : LW} {p e n i : Int} {r : RR} (h1 : e = 0 → T = ⟨(wsC bs (n - i).toNat p 0).at_, (wsC bs (n - i).toNat p 0).e, ys ++ (wsC bs (n - i).toNat p 0).ws⟩) (hlt : i < n) (hr : r = rdC bs p e 18446744073709551615) (hb : unfI r.n < -2147483648 ∨ 2147483647 < unfI r.n) : T.e = 2 := by
  have hn : r.n ≠ 0 := fun h => by rw [h, unf0] at hb; omega
  have hre : r.e = 0 := Decidable.byContradiction fun h => hn (by rw [hr]; exact rdC_err (by rw [← hr]; exact h))
  have he : e = 0 := Decidable.byContradiction fun h => hn (by rw [hr, rdC_ne h])
  subst he
  have hw : wdC bs p 0 = ⟨p, 2, 0⟩ := wdC_bad (by rw [← hr]; exact ⟨hre, hb⟩)
  rw [h1 rfl, show (n - i).toNat = (n - (i + 1)).toNat + 1 by omega, wsC_succ, hw]
  show (wsC bs _ p 2).e = 2
  rw [wsC_ne _ _ _ (by decide)]
theorem LC.none : LC ⟨true, 0, 0, []⟩ [] := ⟨.nil, rfl, Nat.le_refl _, fun _ => ⟨rfl, rfl⟩⟩
theorem LC.one (x : Int) : LC ⟨false, 1, 1, [tgI .i32 x]⟩ [x] := ⟨.one, rfl, Nat.le_refl _, fun h => by cases h⟩
theorem LC.snoc {s : SN} {ys : List Int} (h : LC s ys) (x : Int) {n k : Nat} (hn : n = s.l + 1) (hk : k = if n ≤ s.k then s.k else n) : LC ⟨false, n, k, s.c ++ [tgI .i32 x]⟩ (ys ++ [x]) :=
  ⟨h.he.snoc, by have := h.l; simp; omega, by show n ≤ k; rw [hk]; split <;> omega, fun h => by cases h⟩
theorem LC.flat {s : SN} {ys : List Int} (h : LC s ys) : FlatL s.c := h.he.flat
theorem LC.sli {s : SN} {ys : List Int} (h : LC s ys) : Sli (Value.int .i32) 1 s.n 0 s.l s.k s.c ys := ⟨h.he.at_, by have := h.l; omega, fun hn => ⟨by have := (h.nil hn).1; have := h.l; subst ys; simpa using this, (h.nil hn).2⟩, fun _ => by have := h.he.len; have := h.l; omega, h.le, h.flat⟩
theorem g_words (a : RA) (xs : List Int) (h : RI a xs) (hn : a.s.n = false) (ho : a.s.o = 0) (hl : a.s.l ≤ 1000000) (hm : a.m ≤ 1000) : G_words a xs := by
  have fl := h.sl.flat
  have hsa : (⟨false, 0, a.s.l, a.s.k, a.s.c⟩ : SA) = a.s := by
    obtain ⟨⟨n, o, l, k, c⟩, p, e, m⟩ := a
    dsimp only at hn ho ⊢
    rw [hn, ho]
  have hlen := h.len
  rw [vc_words, hsa]
  refine ⟨⟨trivial, ⟨xs, h⟩, ⟨rfl, rfl⟩, hl⟩, ⟨⟨rfl, rfl, trivial⟩, ⟨trivial, ⟨rfl, rfl, rfl⟩, rfl, rfl, trivial⟩, ⟨trivial, fl, rfl⟩, trivial⟩, fun q hq => ?_, trivial⟩
  have hq : q = rdC xs a.at_ a.e a.m := hq xs h
  obtain ⟨i1, i2, i3, i4⟩ := rdC_in (e := a.e) h.by_ h.at0 (by rw [hlen]; exact h.at1) h.m0
  rw [← hq] at i1 i2 i3 i4 ⊢
  have hout : ∀ {w : WS}, (w.e = (wsC xs q.n.toNat q.at_ q.e).e ∧ (w.e = 0 → w.re = 0 ∧ w.at_ = (wsC xs q.n.toNat q.at_ q.e).at_ ∧ LC w.s (wsC xs q.n.toNat q.at_ q.e).ws)) → ∀ ys : List Int, RI a ys → w.e = (wsC ys (rdC ys a.at_ a.e a.m).n.toNat (rdC ys a.at_ a.e a.m).at_ (rdC ys a.at_ a.e a.m).e).e ∧ (w.e = 0 → w.re = 0 ∧ w.at_ = (wsC ys (rdC ys a.at_ a.e a.m).n.toNat (rdC ys a.at_ a.e a.m).at_ (rdC ys a.at_ a.e a.m).e).at_ ∧ LC w.s (wsC ys (rdC ys a.at_ a.e a.m).n.toNat (rdC ys a.at_ a.e a.m).at_ (rdC ys a.at_ a.e a.m).e).ws) := fun hw ys hy => by
    rw [hy.uniq h, ← hq]; exact hw
  generalize hT : wsC xs q.n.toNat q.at_ q.e = T at hout ⊢
  refine ⟨⟨q.at_, q.e, q.n, 0, ⟨true, 0, 0, []⟩⟩, ⟨⟨⟨by show (0 : Int) ≤ 0; decide, i1⟩, rfl, i3, by rw [← hlen]; exact i4⟩, [], .none, rfl, fun h0 => ?_, fun h0 => ?_⟩, ⟨⟨rfl, ⟨rfl, rfl, rfl⟩, rfl, rfl, trivial⟩, ⟨⟨trivial, ⟨rfl, rfl, rfl⟩, rfl, rfl, trivial⟩, ⟨trivial, fl, rfl⟩, ⟨flatL_nil, trivial⟩, trivial⟩, trivial⟩, ?_⟩
  · have h0 : q.e = 0 := h0
    show T = ⟨(wsC xs (q.n - 0).toNat q.at_ 0).at_, (wsC xs (q.n - 0).toNat q.at_ 0).e, [] ++ (wsC xs (q.n - 0).toNat q.at_ 0).ws⟩
    rw [Int.sub_zero, ← hT, h0]; rfl
  · rw [← hT]
    show (wsC xs q.n.toNat q.at_ q.e).e = q.e
    rw [wsC_ne _ _ _ h0]
  rintro ⟨p, e, n, i, s⟩ ⟨⟨⟨hi0, hi1⟩, hnn, hp0, hp1⟩, ys, hs, hyl, hJ1, hJ2⟩
  dsimp only at hi0 hi1 hnn hp0 hp1 hs hyl hJ1 hJ2 ⊢
  refine ⟨fun hlt => ?_, fun hge => ?_⟩
  · refine ⟨⟨trivial, ⟨xs, h.with hp0 hp1 (by decide) (by decide)⟩, ⟨rfl, rfl, rfl⟩, hl⟩, ⟨⟨rfl, trivial⟩, ⟨trivial, ⟨rfl, rfl, rfl⟩, rfl, rfl, trivial⟩, ⟨trivial, fl, rfl⟩, trivial⟩, fun r hr => ?_, trivial⟩
    have hr : r = rdC xs p e 18446744073709551615 := hr xs (h.with hp0 hp1 (by decide) (by decide))
    obtain ⟨j1, j2, j3, j4⟩ := rdC_in (e := e) h.by_ hp0 (by omega) (show (0 : Int) ≤ 18446744073709551615 by decide)
    rw [← hr] at j1 j2 j3 j4
    have bad : (unfI r.n < -2147483648 ∨ 2147483647 < unfI r.n) → T.e = 2 := fun hb => ws_bad hJ1 hlt hr hb
    refine ⟨fun hb => ⟨⟨r.at_, r.e, 2, ⟨true, 0, 0, []⟩⟩, hout ⟨(bad (.inl hb)).symm, fun h => absurd h (by show ¬ (2 : Int) = 0; decide)⟩, ⟨⟨rfl, rfl, rfl⟩, rfl, trivial⟩, ⟨trivial, ⟨rfl, rfl, rfl⟩, rfl, rfl, trivial⟩, ⟨trivial, fl, rfl⟩, ⟨flatL_nil, trivial⟩, trivial⟩, fun lo => ⟨fun hb => ⟨⟨r.at_, r.e, 2, ⟨true, 0, 0, []⟩⟩, hout ⟨(bad (.inr hb)).symm, fun h => absurd h (by show ¬ (2 : Int) = 0; decide)⟩, ⟨⟨rfl, rfl, rfl⟩, rfl, trivial⟩, ⟨trivial, ⟨rfl, rfl, rfl⟩, rfl, rfl, trivial⟩, ⟨trivial, fl, rfl⟩, ⟨flatL_nil, trivial⟩, trivial⟩, fun hi x hx => ⟨fun hsn => ⟨by simp, fun vs hvs => ⟨fun h => absurd h (by decide), fun _ => ⟨by unfold Few; omega, fun z hz => ?_⟩⟩⟩, fun hsn => ⟨by simp, fun vs hvs => ⟨⟨rfl, by have := hs.he.len; have := hs.l; omega, rfl, hs.le, by unfold Few; have := hs.l; omega, by rw [hvs, lwin_one]; exact oneK_one _ _⟩, fun l' k' hl' hk' z hz => ?_⟩⟩⟩⟩⟩
    · rw [wrap_u64] at hz
      obtain ⟨k1, k2⟩ := ws_step (z := z) hJ1 hJ2 hlt hr lo hi hx (by omega)
      obtain ⟨rfl, _⟩ := hs.nil hsn
      rw [lwin_one] at hvs
      subst hvs
      exact ⟨⟨r.at_, r.e, n, z, ⟨false, 1, 1, _⟩⟩, ⟨⟨⟨by show 0 ≤ z; omega, by show z ≤ n; omega⟩, hnn, j3, by show r.at_ ≤ _; omega⟩, [x], .one x, by show ((1 : Nat) : Int) = z; simp at hyl; omega, k1, k2⟩, by show (n - z).toNat < (n - i).toNat; omega, ⟨rfl, ⟨rfl, rfl, rfl, rfl⟩, rfl, rfl, trivial⟩, ⟨⟨trivial, ⟨rfl, rfl, rfl⟩, rfl, rfl, trivial⟩, ⟨trivial, fl, rfl⟩, ⟨rfl, (LC.one x).flat, rfl⟩, trivial⟩, trivial⟩
    · rw [wrap_u64] at hz
      obtain ⟨k1, k2⟩ := ws_step (z := z) hJ1 hJ2 hlt hr lo hi hx (by omega)
      rw [lwin_one] at hvs
      subst hvs
      have hls := hs.snoc x hl' hk'
      exact ⟨⟨r.at_, r.e, n, z, ⟨false, l', k', _⟩⟩, ⟨⟨⟨by show 0 ≤ z; omega, by show z ≤ n; omega⟩, hnn, j3, by show r.at_ ≤ _; omega⟩, ys ++ [x], hls, by show (((ys ++ [x]).length : Nat) : Int) = z; simp; omega, k1, k2⟩, by show (n - z).toNat < (n - i).toNat; omega, ⟨rfl, ⟨rfl, rfl, rfl, rfl⟩, rfl, rfl, trivial⟩, ⟨⟨trivial, ⟨rfl, rfl, rfl⟩, rfl, rfl, trivial⟩, ⟨trivial, fl, rfl⟩, ⟨rfl, hls.flat, rfl⟩, trivial⟩, trivial⟩
  · have hin : (n - i).toNat = 0 := by omega
    refine ⟨⟨p, e, e, s⟩, hout ⟨?_, fun he => ?_⟩, ⟨⟨rfl, rfl, rfl, rfl⟩, rfl, trivial⟩, ⟨trivial, ⟨rfl, rfl, rfl⟩, rfl, rfl, trivial⟩, ⟨trivial, fl, rfl⟩, ⟨rfl, hs.flat, rfl⟩, trivial⟩
    · show e = T.e
      by_cases he : e = 0
      · rw [hJ1 he, hin, he]; rfl
      · exact (hJ2 he).symm
    · have he : e = 0 := he
      have := hJ1 he
      rw [hin] at this
      rw [this]
      exact ⟨he, rfl, by show LC s (ys ++ []); rw [List.append_nil]; exact hs⟩
theorem s_words : SpecOK Tryz.prog S_words.spec := fun a K hp hq => by
  obtain ⟨⟨xs, h⟩, ⟨hn, ho⟩, hl, hm⟩ := hp
  exact specD_at (an := [some (la_words a xs)]) envOK (cwN_ok (fun _ h => cwD_ok s_rnum (cwD_ok s_rint h)) 2) (fun _ => g_words a xs h hn ho hl hm) K ⟨⟨xs, h⟩, ⟨hn, ho⟩, hl, hm⟩ hq
theorem OwB.sli {b : OW} {xs : List Int} (h : OwB b xs) : Sli (Value.int .u8) 1 false 0 b.l b.k b.c xs := ⟨h.at_, by have := h.l; omega, (fun h => nomatch h), fun _ => by have := h.k; have := h.le; omega, h.le, h.flat⟩
theorem w32_getD {xs : List Int} (h : ∀ n ∈ xs, -2147483648 ≤ n ∧ n ≤ 2147483647) (i : Nat) : -2147483648 ≤ xs.getD i 0 ∧ xs.getD i 0 ≤ 2147483647 := by
  by_cases hi : i < xs.length
  · rw [getD_get hi]; exact h _ (List.getElem_mem hi)
  · have : xs.getD i 0 = 0 := by simp [List.getD, hi]
    omega
theorem MH.uniq {a : MA} {xs ys : List Int} (h : MH a xs) (g : MH a ys) : xs = ys := Sli.uniqI h.sl g.sl
theorem HW.lit (k : IntKind) (z : Int) : HE k [Value.int k z] [z] := ⟨rfl, fun i x h => by
  cases i with
  | zero => cases h; exact .inl rfl
  | succ i => simp at h⟩
theorem byts_append {xs ys : List Int} (h : Byts8 xs) (g : Byts8 ys) : Byts8 (xs ++ ys) := fun b hb => (List.mem_append.1 hb).elim (h b) (g b)
theorem byts_encV (xs : List Int) (k : Nat) : Byts8 (encV xs k) := fun b hb => by
  unfold encV at hb
  obtain ⟨j, _, hj⟩ := List.mem_flatMap.1 hb
  exact num_byts _ b hj
theorem endC_err {bs : List Int} {p e : Int} (h : e ≠ 0) : endC bs p e = e := by unfold endC; rw [if_neg (fun g => h g.1)]
theorem endC_long {bs : List Int} {p : Int} (h : p < bs.length) : endC bs p 0 = 5 := by unfold endC; rw [if_pos ⟨rfl, h⟩]
theorem endC_ok {bs : List Int} {p : Int} (h : ¬ p < bs.length) : endC bs p 0 = 0 := by unfold endC; rw [if_neg (fun g => h g.2)]
theorem wdC_in {bs : List Int} (hb : Byts8 bs) {p e : Int} (hp : 0 ≤ p) (hp2 : p ≤ bs.length) : 0 ≤ (wdC bs p e).at_ ∧ (wdC bs p e).at_ ≤ bs.length := by
  obtain ⟨_, _, h3, h4⟩ := rdC_in (e := e) hb hp hp2 (show (0 : Int) ≤ 18446744073709551615 by decide)
  unfold wdC
  split
  · exact ⟨hp, hp2⟩
  · exact ⟨h3, h4⟩
theorem wsC_in {bs : List Int} (hb : Byts8 bs) : ∀ (n : Nat) {p e : Int}, 0 ≤ p → p ≤ bs.length → 0 ≤ (wsC bs n p e).at_ ∧ (wsC bs n p e).at_ ≤ bs.length := by
  intro n
  induction n with
  | zero => intro p e h0 h1; exact ⟨h0, h1⟩
  | succ n ih =>
    intro p e h0 h1
    by_cases he : e ≠ 0
    · rw [wsC_ne _ _ _ he]; exact ⟨h0, h1⟩
    · obtain rfl := Decidable.not_not.1 he
      rw [wsC_succ]
      obtain ⟨k0, k1⟩ := wdC_in (e := 0) hb h0 h1
      exact ih k0 k1
end Go.Proofs.YtalbjjimnhldfaaGreatDoor
end
