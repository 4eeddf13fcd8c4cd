/- Moves: what is told of their bytes, and of what is read (what is to be shown). -/
import Derived.Test.YtalbjjimnhldfaaGreatDoorYrdM
set_option maxRecDepth 100000
namespace Go.Proofs.YtalbjjimnhldfaaGreatDoor
open Go.Ev
-- keep num foldI dnum frm Go.Ev.Sli lookN Byts8 valN lead rdC wdC wsC decM endC unfI OwB Go.Ev.HV LC encM encMk encV MH RI q2C
structure WR where
  at_ : Int
  e : Int
  w : Int
def wdC (bs : List Int) (p e : Int) : WR := if (rdC bs p e 18446744073709551615).e = 0 ∧ (unfI (rdC bs p e 18446744073709551615).n < -2147483648 ∨ 2147483647 < unfI (rdC bs p e 18446744073709551615).n) then ⟨p, 2, 0⟩
  else ⟨(rdC bs p e 18446744073709551615).at_, (rdC bs p e 18446744073709551615).e, IntKind.wrap .i32 (unfI (rdC bs p e 18446744073709551615).n)⟩
structure LW where
  at_ : Int
  e : Int
  ws : List Int
/-- So many numbers. -/
def wsC (bs : List Int) : Nat → Int → Int → LW
  | 0, p, e => ⟨p, e, []⟩
  | n + 1, p, e => if e ≠ 0 then ⟨p, e, []⟩ else ⟨(wsC bs n (wdC bs p e).at_ (wdC bs p e).e).at_, (wsC bs n (wdC bs p e).at_ (wdC bs p e).e).e, (wdC bs p e).w :: (wsC bs n (wdC bs p e).at_ (wdC bs p e).e).ws⟩
def endC (bs : List Int) (p e : Int) : Int := if e = 0 ∧ p < bs.length then 5 else e
structure DM where
  e : Int
  t : Bool
  xs : List Int
  d : D8
def d80 : D8 := ⟨0, 0, 0, 0, 0, 0, 0, 0⟩
/-- The move that bytes are. -/
def decM (bs : List Int) : DM :=
  if (rdC bs 0 0 1).n = 1 then
    ⟨endC bs (rdC bs (rdC bs 0 0 1).at_ (rdC bs 0 0 1).e 18446744073709551615).at_ (rdC bs (rdC bs 0 0 1).at_ (rdC bs 0 0 1).e 18446744073709551615).e, true, [], frm (rdC bs (rdC bs 0 0 1).at_ (rdC bs 0 0 1).e 18446744073709551615).n⟩
  else
    ⟨endC bs (wsC bs (rdC bs (rdC bs 0 0 1).at_ (rdC bs 0 0 1).e 4).n.toNat (rdC bs (rdC bs 0 0 1).at_ (rdC bs 0 0 1).e 4).at_ (rdC bs (rdC bs 0 0 1).at_ (rdC bs 0 0 1).e 4).e).at_ (wsC bs (rdC bs (rdC bs 0 0 1).at_ (rdC bs 0 0 1).e 4).n.toNat (rdC bs (rdC bs 0 0 1).at_ (rdC bs 0 0 1).e 4).at_ (rdC bs (rdC bs 0 0 1).at_ (rdC bs 0 0 1).e 4).e).e, false,
      (wsC bs (rdC bs (rdC bs 0 0 1).at_ (rdC bs 0 0 1).e 4).n.toNat (rdC bs (rdC bs 0 0 1).at_ (rdC bs 0 0 1).e 4).at_ (rdC bs (rdC bs 0 0 1).at_ (rdC bs 0 0 1).e 4).e).ws, d80⟩
/-- A list of its own, that may be nil. -/
structure SN where
  n : Bool
  l : Nat
  k : Nat
  c : List Value
structure LC (s : SN) (ys : List Int) : Prop where
  he : HE .i32 s.c ys
  l : s.l = ys.length
  le : s.l ≤ s.k
  nil : s.n = true → ys = [] ∧ s.k = 0
/-- A move's parts. -/
structure MA where
  t : Bool
  s : SA
  d : D8
structure MH (a : MA) (xs : List Int) : Prop where
  sl : Sli (Value.int .i32) 1 a.s.n a.s.o a.s.l a.s.k a.s.c xs
  w : ∀ n ∈ xs, -2147483648 ≤ n ∧ n ≤ 2147483647
  d : a.d.Ok
/-- A move's bytes. -/
def encM (t : Bool) (xs : List Int) (d : D8) : List Int := if t then num 1 ++ num (dnum d.l).toNat else num 0 ++ num xs.length ++ encV xs xs.length
def encMk (xs : List Int) (k : Nat) : List Int := num 0 ++ num xs.length ++ encV xs k
structure EM where
  i : Int
  b : OW
structure EM2 where
  i : Int
  k : Nat
  c : List Value
structure M2 where
  a : MA
  b : MA
structure WS where
  at_ : Int
  re : Int
  e : Int
  s : SN
structure WL where
  at_ : Int
  e : Int
  n : Int
  i : Int
  s : SN
structure MR where
  t : Bool
  s : SN
  d : D8
structure EE where
  e : Int
noncomputable section
abbrev SN.v (s : SN) (i : Nat) : Value := mnS i s.n 0 s.l s.k
abbrev D8.c (d : D8) : List Value := [tgI .u8 d.d0, tgI .u8 d.d1, tgI .u8 d.d2, tgI .u8 d.d3, tgI .u8 d.d4, tgI .u8 d.d5, tgI .u8 d.d6, tgI .u8 d.d7]
abbrev MA.c (a : MA) (i : Nat) : List Value := tg (.bool a.t) :: a.s.v i :: a.d.c
abbrev MA.v (a : MA) (i : Nat) : Value := .agg ⟨a.c i⟩
abbrev MA.R (a : MA) (i : Nat) : List (Nat × PO) := [(i, .f a.s.c 21 .gro)]
def maK {β : Type} (A : AW) (i : Nat) (l : List Value) (k : MA → List (Nat × Nat) → Option β) : Option β := wB (lv l 0) fun t => saK A i (lv l 1) fun s r => d8K (l.drop 2) fun d => k ⟨t, s, d⟩ r
abbrev zero8 : List Value := [.int .u8 0, .int .u8 0, .int .u8 0, .int .u8 0, .int .u8 0, .int .u8 0, .int .u8 0, .int .u8 0]
def S_word1 : SpecD where
  f := 65
  α := RA
  args a := [.agg ⟨[a.s.v 12, tgI .i64 a.at_, tgI .i64 a.e]⟩]
  R a := [(12, .f a.s.c 5 .ro)]
  n := 12 + 1
  pre a := (∃ xs, RI a xs) ∧ a.s.l ≤ 1000000
  outs := [⟨WR, fun a b => ∀ xs, RI a xs → b = wdC xs a.at_ a.e, fun a b => .tuple ⟨[.agg ⟨[a.s.v 12, tgI .i64 b.at_, tgI .i64 b.e]⟩, tgI .i32 b.w]⟩, fun _ _ => [], fun _ _ => 12 + 1, fun _ _ => []⟩]
  pick _ _ := 0
  find l A := saK A 12 (lv (agv (lv l 0)) 0) fun s r => wI (lv (agv (lv l 0)) 1) fun p => wI (lv (agv (lv l 0)) 2) fun e => some (⟨s, p, e, 0⟩, r)
def G_word1 (a : RA) : Prop := fnW Tryz.prog E0 (cwN (fun c => cwD Tryz.prog S_read1 (cwD Tryz.prog S_unf1 c)) 2) [] S_word1.f (S_word1.args a) (mem (S_word1.R a) S_word1.n) (endD Tryz.prog S_word1 a)
def S_words : SpecD where
  f := 61
  α := RA
  args a := [.pointer (some ⟨12, 0, none⟩), tgI .u64 a.m]
  R a := rdR a.s a.at_ a.e
  n := 12 + 2
  pre a := (∃ xs, RI a xs) ∧ (a.s.n = false ∧ a.s.o = 0) ∧ a.s.l ≤ 1000000 ∧ a.m ≤ 1000
  outs := [⟨WS, fun a b => ∀ xs, RI a xs → b.e = (wsC xs (rdC xs a.at_ a.e a.m).n.toNat (rdC xs a.at_ a.e a.m).at_ (rdC xs a.at_ a.e a.m).e).e ∧ (b.e = 0 → b.re = 0 ∧ b.at_ = (wsC xs (rdC xs a.at_ a.e a.m).n.toNat (rdC xs a.at_ a.e a.m).at_ (rdC xs a.at_ a.e a.m).e).at_ ∧ LC b.s (wsC xs (rdC xs a.at_ a.e a.m).n.toNat (rdC xs a.at_ a.e a.m).at_ (rdC xs a.at_ a.e a.m).e).ws),
    fun _ b => .tuple ⟨[b.s.v (12 + 2), tgI .i64 b.e]⟩, fun a b => rdR a.s b.at_ b.re ++ [(12 + 2, .f b.s.c 21 (.grown b.s.k))], fun _ _ => 12 + 3, fun v _ => renS (12 + 2) (lv (agv v) 0)⟩]
  pick _ _ := 0
  find l A := raK A (lv l 0) (lv l 1) fun a r => some (a, r)
def la_words (a : RA) (xs : List Int) : LA where
  α := WL
  at_ e := ⟨[(0, .pointer (some ⟨12, 0, none⟩)), (6, e.s.v (12 + 2)), (10, tgI .u64 e.n), (11, tgI .u64 e.i)], rdR a.s e.at_ e.e ++ [(12 + 2, .f e.s.c 21 (.grown e.s.k))], 12 + 3⟩
  J e := ((0 ≤ e.i ∧ e.i ≤ e.n) ∧ e.n = (rdC xs a.at_ a.e a.m).n ∧ (0 ≤ e.at_ ∧ e.at_ ≤ a.s.l)) ∧ ∃ ys, LC e.s ys ∧ (ys.length : Int) = e.i ∧
    (e.e = 0 → (wsC xs (rdC xs a.at_ a.e a.m).n.toNat (rdC xs a.at_ a.e a.m).at_ (rdC xs a.at_ a.e a.m).e) = ⟨(wsC xs (e.n - e.i).toNat e.at_ 0).at_, (wsC xs (e.n - e.i).toNat e.at_ 0).e, ys ++ (wsC xs (e.n - e.i).toNat e.at_ 0).ws⟩) ∧
    (e.e ≠ 0 → (wsC xs (rdC xs a.at_ a.e a.m).n.toNat (rdC xs a.at_ a.e a.m).at_ (rdC xs a.at_ a.e a.m).e).e = e.e)
  μ e := (e.n - e.i).toNat
  ren s := renS (12 + 2) (tv s 6)
def G_words (a : RA) (xs : List Int) : Prop := fnW Tryz.prog E0 (cwN (fun c => cwD Tryz.prog S_rnum (cwD Tryz.prog S_rint c)) 2) [some (la_words a xs)] S_words.f (S_words.args a) (mem (S_words.R a) S_words.n) (endD Tryz.prog S_words a)
def S_encM : SpecD where
  f := 20
  α := MA
  args a := [a.v 12]
  R a := a.R 12
  n := 12 + 1
  pre a := (∃ xs, MH a xs) ∧ a.s.l ≤ 100
  outs := [⟨OW, fun a b => b.k ≤ 3000 ∧ ∀ xs, MH a xs → OwB b (encM a.t xs a.d), fun _ b => tgS (12 + 1) 0 b.l b.k, fun _ b => [(12 + 1, .f b.c 5 .own)], fun _ _ => 12 + 2, fun v _ => renS (12 + 1) v⟩]
  pick _ _ := 0
  find l A := maK A 12 (agv (lv l 0)) fun a r => some (a, r)
def la_encM (a : MA) (xs : List Int) : LA where
  α := EM
  at_ e := ⟨[(3, tgS (12 + 1) 0 e.b.l e.b.k), (20, a.s.v 12), (21, tgI .i64 a.s.l), (22, tgI .i64 e.i)], (12 + 1, .f e.b.c 5 .own) :: a.R 12, 12 + 2⟩
  J e := (0 ≤ e.i ∧ e.i ≤ a.s.l) ∧ OwB e.b (encMk xs e.i.toNat) ∧ (e.b.l : Int) ≤ 20 + 10 * e.i ∧ (e.b.k : Int) ≤ 30 + 10 * e.i
  μ e := (a.s.l - e.i).toNat
  ren s := renS (12 + 1) (tv s 3)
def G_encM (a : MA) (xs : List Int) : Prop := fnW Tryz.prog E0 (cwD Tryz.prog S_putn (cwD Tryz.prog S_puti (cwD Tryz.prog S_hnum cw0))) [some (la_encM a xs)] S_encM.f (S_encM.args a) (mem (S_encM.R a) S_encM.n) (endD Tryz.prog S_encM a)
def S_encM2 : SpecD where
  f := 22
  α := MA
  args a := [a.v 12]
  R a := a.R 12
  n := 12 + 1
  pre a := (∃ xs, MH a xs) ∧ a.s.l ≤ 100
  outs := [⟨RW, fun a b => (b.c.length ≤ b.k ∧ b.c.length ≤ 3000) ∧ ∀ xs, MH a xs → HE .u8 b.c (encM a.t xs a.d), fun _ b => tgS (12 + 1) 0 b.c.length b.k, fun _ b => [(12 + 1, .f b.c 5 (.grown b.k))], fun _ _ => 12 + 2, fun v _ => renS (12 + 1) v⟩]
  pick _ _ := 0
  find l A := maK A 12 (agv (lv l 0)) fun a r => some (a, r)
def la_encM2 (a : MA) (xs : List Int) : LA where
  α := EM2
  at_ e := ⟨[(1, .pointer (some ⟨12 + 1, 0, none⟩)), (3, tgS (12 + 2) 0 e.c.length e.k), (4, tgI .i64 e.i)], (12 + 1, .p (.row (a.c 12) 52 .own)) :: (12 + 2, .f e.c 5 (.grown e.k)) :: a.R 12, 12 + 3⟩
  J e := (0 ≤ e.i ∧ e.i ≤ a.s.l) ∧ (HE .u8 e.c (encMk xs e.i.toNat) ∧ e.c.length ≤ e.k) ∧ (e.c.length : Int) ≤ 20 + 10 * e.i
  μ e := (a.s.l - e.i).toNat
  ren s := renP (12 + 1) (tv s 1) ++ renS (12 + 2) (tv s 3)
def G_encM2 (a : MA) (xs : List Int) : Prop := fnW Tryz.prog E0 (cwD Tryz.prog S_num (cwD Tryz.prog S_signed (cwD Tryz.prog S_dnum cw0))) [some (la_encM2 a xs)] S_encM2.f (S_encM2.args a) (mem (S_encM2.R a) S_encM2.n) (endD Tryz.prog S_encM2 a)
def decOuts (i : Nat) : List (Out SA) := [⟨MR, fun a b => ∀ xs, Sli (Value.int .u8) 1 a.n a.o a.l a.k a.c xs → ∃ ys, LC b.s ys ∧ decM xs = ⟨0, b.t, ys, b.d⟩, fun _ b => .tuple ⟨[.agg ⟨tg (.bool b.t) :: b.s.v i :: b.d.c⟩, .int .i64 0]⟩, fun _ b => [(i, .f b.s.c 21 (.grown b.s.k))], fun _ _ => i + 1, fun v _ => renS i (lv (agv (lv (agv v) 0)) 1)⟩,
    ⟨EE, fun a b => b.e ≠ 0 ∧ ∀ xs, Sli (Value.int .u8) 1 a.n a.o a.l a.k a.c xs → (decM xs).e = b.e, fun _ b => .tuple ⟨[.agg ⟨.bool false :: .slice none 0 0 :: zero8⟩, tgI .i64 b.e]⟩, fun _ _ => [], fun _ _ => i, fun _ _ => []⟩]
def errPick (v : Value) : Nat := match lv (agv v) 1 with
  | .int _ (.ofNat 0) => 0
  | _ => 1
def S_decM : SpecD where
  f := 24
  α := SA
  args a := [a.v 12]
  R a := [(12, .f a.c 5 .gro)]
  n := 12 + 1
  pre a := (∃ xs, Sli (Value.int .u8) 1 a.n a.o a.l a.k a.c xs ∧ Byts8 xs) ∧ a.l ≤ 100000
  outs := decOuts (12 + 1)
  pick v _ := errPick v
  find l A := saK A 12 (lv l 0) fun s r => some (s, r)
def G_decM (a : SA) : Prop := fnW Tryz.prog E0 (cwN (fun c => cwD Tryz.prog S_fresh (cwD Tryz.prog S_rnum (cwD Tryz.prog S_words (cwD Tryz.prog S_hfrom c)))) 3) [] S_decM.f (S_decM.args a) (mem (S_decM.R a) S_decM.n) (endD Tryz.prog S_decM a)
def S_decM2 : SpecD where
  f := 34
  α := SA
  args a := [a.v 12]
  R a := [(12, .f a.c 5 .ro)]
  n := 12 + 1
  pre a := (∃ xs, Sli (Value.int .u8) 1 a.n a.o a.l a.k a.c xs ∧ Byts8 xs) ∧ a.l ≤ 100000
  outs := decOuts (12 + 1)
  pick v _ := errPick v
  find l A := saK A 12 (lv l 0) fun s r => some (s, r)
abbrev decRows (a : SA) (e : WL) : List (Nat × PO) := [(12, .f a.c 5 .ro), (12 + 1, .p (.row (.bool false :: e.s.v (12 + 3) :: zero8) 52 .own)), (12 + 2, .p (.row [a.v 12, tgI .i64 e.at_, tgI .i64 e.e] 130 .own)), (12 + 3, .f e.s.c 21 (.grown e.s.k)), (12 + 4, .p (.row (.bool false :: .slice none 0 0 :: zero8) 52 .own))]
def decRen (s : St) : List (Nat × Nat) := renP (12 + 1) (tv s 4) ++ (renP (12 + 2) (tv s 5) ++ (renP (12 + 4) (tv s 2) ++ renS (12 + 3) (lv (rowO s.A (ptB (tv s 4))) 1)))
def q2C (bs : List Int) : RR := rdC bs (rdC bs 0 0 1).at_ (rdC bs 0 0 1).e 4
def la_decM2 (a : SA) (xs : List Int) : LA where
  α := WL
  at_ e := ⟨[(2, .pointer (some ⟨12 + 4, 0, none⟩)), (4, .pointer (some ⟨12 + 1, 0, none⟩)), (5, .pointer (some ⟨12 + 2, 0, none⟩)), (10, tgI .u64 e.n), (11, tgI .u64 e.i)], decRows a e, 12 + 5⟩
  J e := ((0 ≤ e.i ∧ e.i ≤ e.n) ∧ e.n = (q2C xs).n ∧ (0 ≤ e.at_ ∧ e.at_ ≤ a.l)) ∧ ∃ ys, LC e.s ys ∧ (ys.length : Int) = e.i ∧
    wsC xs (q2C xs).n.toNat (q2C xs).at_ (q2C xs).e = ⟨(wsC xs (e.n - e.i).toNat e.at_ e.e).at_, (wsC xs (e.n - e.i).toNat e.at_ e.e).e, ys ++ (wsC xs (e.n - e.i).toNat e.at_ e.e).ws⟩
  μ e := (e.n - e.i).toNat
  ren := decRen
  xt := some (0, { β := WL, at_ := fun e => ⟨[(2, .pointer (some ⟨12 + 4, 0, none⟩)), (4, .pointer (some ⟨12 + 1, 0, none⟩)), (5, .pointer (some ⟨12 + 2, 0, none⟩))], decRows a e, 12 + 5⟩, J := fun e => (0 ≤ e.at_ ∧ e.at_ ≤ a.l) ∧ LC e.s (wsC xs (q2C xs).n.toNat (q2C xs).at_ (q2C xs).e).ws ∧ e.at_ = (wsC xs (q2C xs).n.toNat (q2C xs).at_ (q2C xs).e).at_ ∧ e.e = (wsC xs (q2C xs).n.toNat (q2C xs).at_ (q2C xs).e).e, ren := decRen })
def G_decM2 (a : SA) (xs : List Int) : Prop := fnW Tryz.prog E0 (cwN (fun c => cwD Tryz.prog S_read1 (cwD Tryz.prog S_word1 (cwD Tryz.prog S_dfrom c))) 2) [some (la_decM2 a xs)] S_decM2.f (S_decM2.args a) (mem (S_decM2.R a) S_decM2.n) (endD Tryz.prog S_decM2 a)
def S_sameM : SpecD where
  f := 23
  α := M2
  args a := [a.a.v 12, a.b.v (12 + 1)]
  R a := a.a.R 12 ++ a.b.R (12 + 1)
  n := 12 + 2
  pre a := (∃ xs ys, MH a.a xs ∧ MH a.b ys) ∧ a.a.s.l ≤ 100 ∧ a.b.s.l ≤ 100
  outs := [⟨BL, fun a b => ∀ xs ys, MH a.a xs → MH a.b ys → (b.b = true ↔ encM a.a.t xs a.a.d = encM a.b.t ys a.b.d), fun _ b => tg (.bool b.b), fun _ _ => [], fun _ _ => 12 + 2, fun _ _ => []⟩]
  pick _ _ := 0
  find l A := maK A 12 (agv (lv l 0)) fun a r => maK A (12 + 1) (agv (lv l 1)) fun b q => some (⟨a, b⟩, r ++ q)
def G_sameM (a : M2) : Prop := fnW Tryz.prog E0 (cwN (fun c => cwD Tryz.prog S_encM c) 2) [] S_sameM.f (S_sameM.args a) (mem (S_sameM.R a) S_sameM.n) (endD Tryz.prog S_sameM a)
end
end Go.Proofs.YtalbjjimnhldfaaGreatDoor
