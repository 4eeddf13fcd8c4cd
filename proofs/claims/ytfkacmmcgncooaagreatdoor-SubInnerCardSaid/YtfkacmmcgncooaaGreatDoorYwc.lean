/- An act within an inner table (what is to be shown). -/
import Derived.Test.YtfkacmmcgncooaaGreatDoorYq2
section
set_option maxRecDepth 100000
namespace Go.Proofs.YtfkacmmcgncooaaGreatDoor
open Go.Ev
-- keep Go.Proofs.Tryz.prog Go.Ev.FX twoX actX1 actsX isG isGx smQ turnG payR doP doN doV doF allS sumX sumY actG monJ errQ movQ begQ endQ begM endM popE posG rulG allG onG erO stQ cells0 cells1 cells2 cells4 cells5 cells6 cells8 cells9 cells10
variable [Frozen Tryz.prog]
noncomputable section
def doN (d : Nat) (a : DoA) : Prop := doP d a ∧ a.w % 5 ≤ 2
def doV (a : DoA) : Prop := doN 1 a ∧ ∃ k j m : Nat, isG a.s.g a.s.p k j ∧ actG k j a.w a.t a.z = (m : Int)
def doF (a : DoA) : Prop := doN 1 a ∧ ∃ k j : Nat, isG a.s.g a.s.p k j ∧ actG k j a.w a.t a.z < 0
def S_doN (d : Nat) : SpecD := { S_do d [] with
  pre := fun a => doN d a
  pick := fun v _ => pickZ v
  find := fun l A => Bool.rec none ((S_do d []).find l A) (Nat.beq (rowO A bkN).length 1) }
def mvB (A : AW) : Bool := match lv (rowO A 12) 0 with
  | .slice (some ⟨j, _, _⟩) l _ => Nat.ble bkN (blI (lv (rowO A j) (Nat.add (inO l) 1)))
  | _ => false
def S_doV : SpecD := { S_do 1 [] with
  outs := [outM 1]
  pre := fun a => doV a
  pick := fun _ _ => 0
  find := fun l A => Bool.rec none (Bool.rec none ((S_do 1 []).find l A) (mvB A)) (Nat.beq (rowO A bkN).length 1) }
def S_doF : SpecD := { S_do 1 [] with
  outs := [outE 1]
  pre := fun a => doF a
  pick := fun _ _ => 0
  find := fun l A => Bool.rec none (Bool.rec ((S_do 1 []).find l A) none (mvB A)) (Nat.beq (rowO A bkN).length 1) }
def S_pushZ (d : Nat) : SpecD := { S_pushO d with
  pre := fun a => (S_pushO d).pre a ∧ a.x = 0 ∧ a.y = 0
  outs := [⟨Unit, fun a _ => onG a.s.g a.s.p, fun _ _ => .int .i64 0,
      fun a _ => stR 12 (inB d + 32) (d + 1) (ouL d a.s ++ [loV (inB d) a.s.inn, ⟨inB d + 16, inB d + 33, inB d + 36, a.p.ou 0 0⟩]) ++ (poR a.p (inB d + 33) ++ [(12 + 1, .p .dead)]), fun _ _ => inB d + 37, fun _ A => pushN d (inB d + 32) A⟩,
    ⟨Unit, fun _ _ => True, fun _ _ => .int .i64 10, fun a _ => stR 12 (12 + 1) d (stL d a.s), fun _ _ => inB d + 32, fun _ _ => []⟩] }
def G_pushZ1 (a : PuO) : Prop := callD Tryz.prog (S_pushO 1) (fun _ => True) ((S_pushZ 1).args a) (mem ((S_pushZ 1).R a) (S_pushZ 1).n) (endD Tryz.prog (S_pushZ 1) a)
def G_pushZ2 (a : PuO) : Prop := callD Tryz.prog (S_pushO 2) (fun _ => True) ((S_pushZ 2).args a) (mem ((S_pushZ 2).R a) (S_pushZ 2).n) (endD Tryz.prog (S_pushZ 2) a)
def G_pushZ3 (a : PuO) : Prop := callD Tryz.prog (S_pushO 3) (fun _ => True) ((S_pushZ 3).args a) (mem ((S_pushZ 3).R a) (S_pushZ 3).n) (endD Tryz.prog (S_pushZ 3) a)
end
end Go.Proofs.YtfkacmmcgncooaaGreatDoor
end

/- A table within another one goes as it would by itself: the law (what is to be shown). -/
section
set_option maxRecDepth 100000
namespace Go.Proofs.YtfkacmmcgncooaaGreatDoor
open Go.Ev
-- keep Go.Proofs.Tryz.prog Go.Ev.FX twoX actX1 actsX isG isGx smQ turnG payR doP doN doV doF allS sumX sumY actG monJ jnJ errQ movQ begQ endQ begM endM popE posG rulG allG onG erO stQ cells0 cells1 cells2 cells4 cells5 cells6 cells8 cells9 cells10
structure InA where
  w : Int
  n : Int
  x : Int
  y : Int
  v : Option Addr
  l : Nat
  c : Nat
  u : Option Addr
  m : Nat
  k : Nat
def InA.h (a : InA) : MnA := ⟨a.w, a.x, a.y, a.v, a.l, a.c⟩
variable [Frozen Tryz.prog]
noncomputable section
def rpT (b : Nat) (v : GvA) : List (Nat × PO) := ruT v.g b ++ poR v.p (b + 12)
def pyT (d : Nat) (a : PyA) : List (Nat × PO) := nth4 d (rpT (12 + 2) a.a) (rpT (12 + 2) a.a ++ rpT (12 + 18) a.b) (rpT (12 + 2) a.a ++ (rpT (12 + 18) a.b ++ rpT (12 + 34) a.c)) (rpT (12 + 2) a.a ++ (rpT (12 + 18) a.b ++ (rpT (12 + 34) a.c ++ rpT (12 + 50) a.e)))
def lawT (d : Nat) (t : PyA) : List (Nat × PO) := stR 12 (12 + 1) d (plL d t) ++ (pyT d t ++ [(0, .f cells0 327 .ro), (1, .f cells1 333 .ro), (2, .f cells2 356 .ro), (4, .f cells4 327 .ro), (5, .f cells5 368 .ro), (6, .f cells6 381 .ro), (8, .f cells8 385 .ro), (9, .f cells9 388 .ro), (10, .f cells10 389 .ro)])
def jnR (g : RuA) (p : PoA) : List (Nat × PO) := ruT g bkN ++ (poR p (bkN + 12) ++ [(bkN + 15, .p (.row (agv (poT p (bkN + 12))) 37 .own))])
def jnM (A : AW) (u v : Value) : List (Nat × Nat) := let c := rowO A (ptI v)
  ruN A bkN u ++ [(bkN + 12, blI (lv c 0)), (bkN + 13, blI (lv c 1)), (bkN + 14, blI (lv c 2)), (bkN + 15, ptI v)]
def lcI (d : Nat) (a : InA) : LC where
  β := BkB
  at_ e := ⟨[(4, .iface EXT (.slice a.u a.m a.k)), (11, .pointer (some ⟨12, 0, none⟩)), (12, .pointer (some ⟨bkN, 0, none⟩)), (13, .pointer (some ⟨bkN + 15, 0, none⟩)), (57, .iface EXT (.slice a.v a.l a.c)), (58, tgI .i64 a.l), (59, tgI .i64 e.i)], lawT d e.t ++ jnR e.g e.p, bkN + 16⟩
  J e := monJ d a.h ⟨e.t, e.i⟩ ∧ stQ e.g e.p
  μ e := (a.l - e.i).toNat
  ren s := pvN d s.A (tv s 11) ++ jnM s.A (tv s 12) (tv s 13)
def la_in1 (a : InA) : LA := { α := Unit, at_ := fun _ => ⟨[], [], 0⟩, J := fun _ => True, μ := fun _ => 0, ren := fun _ => [], mc := some (fun _ => [lcI 1 a, lcI 2 a, lcI 3 a, lcI 4 a], fun s => Nat.pred (deepI s.A (tv s 11))) }
def innT (d : Nat) (t : PyA) : GvA := nth4 d t.a t.b t.c t.e
def outT (d : Nat) (t : PyA) : GvA := nth4 d t.a t.a t.b t.c
def jlR (d : Nat) (t : PyA) : List (Nat × PO) :=
  stR bkN (bkN + 1) 1 [⟨inB d, bkN + 2, bkN + 5, (innT d t).p.ou (innT d t).x (innT d t).y⟩] ++ (poR (innT d t).p (bkN + 2) ++
  ((bkN + 6, .p (.row [tgI .u8 (outT d t).g.d.d0, tgI .u8 (outT d t).g.d.d1, tgI .u8 (outT d t).g.d.d2, tgI .u8 (outT d t).g.d.d3, tgI .u8 (outT d t).g.d.d4, tgI .u8 (outT d t).g.d.d5, tgI .u8 (outT d t).g.d.d6, tgI .u8 (outT d t).g.d.d7, sc (bkN + 7) 2, sc (bkN + 8) 2, sc (bkN + 9) 2, tgI .i64 (outT d t).p.r0, tgI .i64 (outT d t).p.r1, tgI .i64 (outT d t).p.r2, tgI .i64 (outT d t).p.r3, tgI .u64 (outT d t).p.r4, sc (bkN + 10) 2] 49 .own)) ::
  (poR (outT d t).p (bkN + 7) ++ [(bkN + 10, .p (.row [tgI .i64 (outT d t).x, tgI .i64 (outT d t).y] 3 (.grown 2)))])))
def jlM (A : AW) (u v : Value) : List (Nat × Nat) := let j := blI (lv (rowO A (ptI v)) 0); let c := rowO A j; let b := rowO A (ptI u)
  [(bkN, ptI v), (bkN + 1, j), (bkN + 2, blI (lv c 1)), (bkN + 3, blI (lv c 2)), (bkN + 4, blI (lv c 3)), (bkN + 5, blI (lv c 9)), (bkN + 6, ptI u), (bkN + 7, blI (lv b 8)), (bkN + 8, blI (lv b 9)), (bkN + 9, blI (lv b 10)), (bkN + 10, blI (lv b 16))]
def jnJ (d : Nat) (a : InA) (e : MnB) : Prop := (0 ≤ e.i ∧ e.i ≤ a.m) ∧ allOK d e.t
def lcJ (d : Nat) (a : InA) : LC where
  β := MnB
  at_ e := ⟨[(11, .pointer (some ⟨12, 0, none⟩)), (16, .int .i64 (nth4 d 0 1 2 3)), (17, .pointer (some ⟨bkN + 6, 0, none⟩)), (20, .pointer (some ⟨bkN, 0, none⟩)), (107, .iface EXT (.slice a.u a.m a.k)), (108, tgI .i64 a.m), (109, tgI .i64 e.i)], lawT d e.t ++ jlR d e.t, bkN + 11⟩
  J e := jnJ d a e
  μ e := (a.m - e.i).toNat
  ren s := pvN d s.A (tv s 11) ++ jlM s.A (tv s 17) (tv s 20)
def nthC (d : Nat) (b c e : LC) : LC := Nat.rec (motive := fun _ => LC) b (fun d _ => Nat.rec (motive := fun _ => LC) b (fun d _ => Nat.rec (motive := fun _ => LC) b (fun d _ => Nat.rec (motive := fun _ => LC) c (fun _ _ => e) d) d) d) d
def la_in2 (a : InA) : LA := { α := Unit, at_ := fun _ => ⟨[], [], 0⟩, J := fun _ => True, μ := fun _ => 0, ren := fun _ => [], mc := some (fun s => [nthC (deepI s.A (tv s 11)) (lcJ 2 a) (lcJ 3 a) (lcJ 4 a)], fun _ => 0) }
def S_inner : SpecD where
  f := 3
  α := InA
  args a := [tgI .u8 a.w, tgI .u8 a.n, .agg ⟨[tgI .u16 a.x, tgI .u16 a.y]⟩, .iface EXT (.slice a.v a.l a.c), .iface EXT (.slice a.u a.m a.k)]
  R _ := [(0, .f cells0 327 .ro), (1, .f cells1 333 .ro), (2, .f cells2 356 .ro), (4, .f cells4 327 .ro), (5, .f cells5 368 .ro), (6, .f cells6 381 .ro), (8, .f cells8 385 .ro), (9, .f cells9 388 .ro), (10, .f cells10 389 .ro)]
  n := 12
  pre a := (((0 ≤ a.w ∧ a.w < 256) ∧ 0 ≤ a.n ∧ a.n < 256) ∧ (0 ≤ a.x ∧ a.x < 65536) ∧ 0 ≤ a.y ∧ a.y < 65536) ∧ actsX a.v a.l ∧ actsX a.u a.m
  outs := [⟨Unit, fun _ _ => True, fun _ _ => .bool true, fun _ _ => [], fun _ _ => 12, fun _ _ => []⟩]
  pick _ _ := 0
  find _ _ := none
def cwIn (c : CW) : CW := cwD Tryz.prog S_known (cwD Tryz.prog S_few (cwD Tryz.prog S_begin (cwE Tryz.prog S_doV (cwE Tryz.prog S_doF (cwE Tryz.prog (S_doN 2) (cwE Tryz.prog (S_doN 3) (cwE Tryz.prog (S_doN 4) (cwE Tryz.prog S_doM1 (cwE Tryz.prog S_doM2 (cwE Tryz.prog S_doM3 (cwE Tryz.prog S_doM4
  (cwD Tryz.prog S_startG (cwE Tryz.prog (S_pushZ 1) (cwE Tryz.prog (S_pushZ 2) (cwE Tryz.prog (S_pushZ 3) (cwE Tryz.prog S_pushO4 (cwD Tryz.prog S_new1 (cwD Tryz.prog S_gturn (cwD Tryz.prog S_gclone (cwE Tryz.prog S_cl2 (cwD Tryz.prog S_gsame (cwD Tryz.prog S_lsame c))))))))))))))))))))))
def G_inner (a : InA) : Prop := fnW Tryz.prog E0 (cwX cwIn 5) [some (la_in1 a), some (la_in2 a)] S_inner.f (S_inner.args a) (mem (S_inner.R a) S_inner.n) (endD Tryz.prog S_inner a)
end
end Go.Proofs.YtfkacmmcgncooaaGreatDoor
end

/- An act within an inner table: the same wherever the table is (plain); the contracts of the law. -/
section
set_option maxRecDepth 100000
namespace Go.Proofs.YtfkacmmcgncooaaGreatDoor
open Go.Ev
theorem smI {n : Int} (h : 0 ≤ n) (h' : n ≤ 1000000) : smQ n := ⟨h, h'⟩
theorem lw2 {x y u v : Int} (h : lwin [tgI .i64 x, tgI .i64 y] 0 2 = [tgI .i64 u, tgI .i64 v]) : x = u ∧ y = v := by
  have h : [tgI .i64 x, tgI .i64 y] = [tgI .i64 u, tgI .i64 v] := h
  injection h with h1 h2
  injection h2 with h2 _
  injection h1 with _ h1
  injection h2 with _ h2
  injection h1 with _ h1
  injection h2 with _ h2
  exact ⟨h1, h2⟩
theorem monI {d : Nat} {a : MnA} {e : MnB} (h1 : 0 ≤ e.i ∧ e.i ≤ a.l) (h2 : allOK d e.t) (h3 : totL d e.t = a.x + a.y) : monJ d a e := And.intro h1 (And.intro h2 h3)
theorem erF {g : RuA} {p : PoA} {w t z e : Int} (h2 : w % 5 ≤ 2) (h : e ≠ 0 ∧ (w % 5 ≤ 2 → 0 < e ∧ ∃ k j : Nat, isG g p k j ∧ actG k j w t z = -e)) : ∃ k j : Nat, isG g p k j ∧ actG k j w t z < 0 := by
  obtain ⟨h0, k, j, h1, h3⟩ := h.2 h2
  exact ⟨k, j, h1, by omega⟩
variable [Frozen Tryz.prog]
theorem mvU {g : RuA} {p m n : PoA} {w t z : Int} (h : ∃ k j x : Nat, isG g p k j ∧ actG k j w t z = (x : Int) ∧ isG g m k x) (h' : ∃ k j x : Nat, isG g p k j ∧ actG k j w t z = (x : Int) ∧ isG g n k x) : n = m := by
  obtain ⟨k, j, x, h1, h2, -, -, h3⟩ := h
  obtain ⟨k', j', x', h4, h5, -, -, h6⟩ := h'
  obtain ⟨rfl, rfl⟩ := isG_inj h1 h4
  rw [h2] at h5
  rw [h3, h6, Int.ofNat.inj h5]
theorem erU {g : RuA} {p : PoA} {w t z e f : Int} (h2 : w % 5 ≤ 2) (h : e ≠ 0 ∧ (w % 5 ≤ 2 → 0 < e ∧ ∃ k j : Nat, isG g p k j ∧ actG k j w t z = -e)) (h' : f ≠ 0 ∧ (w % 5 ≤ 2 → 0 < f ∧ ∃ k j : Nat, isG g p k j ∧ actG k j w t z = -f)) : e = f := by
  obtain ⟨h0, k, j, h1, h3⟩ := h.2 h2
  obtain ⟨h4, k', j', h5, h6⟩ := h'.2 h2
  obtain ⟨rfl, rfl⟩ := isG_inj h1 h5
  omega
theorem tnU {g : RuA} {p : PoA} {b c : Int} (h : ∃ k j : Nat, isG g p k j ∧ b = turnG k j) (h' : ∃ k j : Nat, isG g p k j ∧ c = turnG k j) : b = c := by
  obtain ⟨k, j, h1, h2⟩ := h
  obtain ⟨k', j', h3, h4⟩ := h'
  obtain ⟨rfl, rfl⟩ := isG_inj h1 h3
  rw [h2, h4]
abbrev QYwd_10 (a0 : RuA) : Prop := True ∧ True ∧ Z2 ∧ Z1 a0.19.1 ∧ Z1 a0.19.2 ∧ Z1 a0.19.3 ∧ Z1 a0.19.4 ∧ Z1 a0.19.5 ∧ Z1 a0.19.6 ∧ Z1 a0.19.7 ∧ Z1 a0.19.8 ∧ 0 = 0 ∧ (0 = 0 ∧ 1 =
 1 ∧ 1 = 1) ∧ Z2 ∧ True
abbrev QYwd_11 : Prop := True ∧ FlatL [Value.int .i64 1, Value.int .i64 1] ∧ [Value.int .i64 1, Value.int .i64 1] = [Value.int .i64 1, Value.int .i64 1]
abbrev QYwd_4 (a0 : RuA) : Prop := True ∧ (2 : Int) = 2 ∧ (2 : Int) = 2 ∧ Z2 ∧ (0 = 0 ∧ 1 = 1 ∧ 1 = 1) ∧ (0 = 0 ∧ Z1 a0.1 ∧ Z1 a0.1) ∧ (0 = 0 ∧ Z1 a0.2 ∧ Z1 a0.2) ∧ (0 = 0 ∧ Z1
 a0.3 ∧ Z1 a0.3) ∧ (0 = 0 ∧ Z1 a0.4 ∧ Z1 a0.4) ∧ (0 = 0 ∧ Z1 a0.5 ∧ Z1 a0.5) ∧ Z1 a0.6 ∧ Z1 a0.7 ∧ Z1 a0.8 ∧ Z1 a0.9 ∧ Z1 a0.10 ∧ True
abbrev QYwd_12 : Prop := True ∧ FlatL [Value.int .i32 0, Value.int .i32 0] ∧ [Value.int .i32 0, Value.int .i32 0] = [Value.int .i32 0, Value.int .i32 0]
abbrev QYwd_1 (a0 : PuO) : Prop := QYwd_10 a0.1.4 ∧ QYwd_11 ∧ QYwd_4 a0.1.4 ∧ QYwd_12 ∧ ZF a0.1.4.11 ∧ ZF a0.1.4.12 ∧ ZF a0.1.4.13 ∧ ZF a0.1.4.14 ∧ ZF a0.1.4.15 ∧ ZF a0.1.4.16 ∧ ZF
 a0.1.4.17 ∧ ZF a0.1.4.18 ∧ ZF a0.1.5.1 ∧ ZF a0.1.5.2 ∧ ZF a0.1.5.3 ∧ QYwd_10 a0.2 ∧ QYwd_11 ∧ QYwd_4 a0.2 ∧ QYwd_12 ∧ ZF a0.2.11 ∧ ZF a0.2.12 ∧ ZF a0.2.13 ∧ ZF a0.2.14 ∧ ZF a0.2.15
 ∧ ZF a0.2.16 ∧ ZF a0.2.17 ∧ ZF a0.2.18 ∧ ZF a0.3.1 ∧ ZF a0.3.2 ∧ ZF a0.3.3 ∧ ZF cells2 ∧ True
abbrev QYwd_2 (a0 : PoA) : Prop := 0 = 0 ∧ Z2 ∧ Z2 ∧ Z2 ∧ Z1 a0.4 ∧ Z1 a0.5 ∧ Z1 a0.6 ∧ Z1 a0.7 ∧ Z1 a0.8 ∧ Z2 ∧ True
abbrev QYwd_3 (a0 : PuO) : Prop := (2 = 2 ∧ a0.1.6 = a0.1.6 - a0.4 ∧ a0.1.7 = a0.1.7 - a0.5 ∧ True) ∧ (2 = 2 ∧ Int.ofNat 0 = a0.4 ∧ Int.ofNat 0 = a0.5 ∧ True) ∧ ZF a0.3.1 ∧ ZF a0.3.2 ∧ ZF
 a0.3.3 ∧ True ∧ True
abbrev QYwd_5 (a0 : PuO) (a1 : Int) : Prop := (∃ (b0 b1 : Nat), isG a0.1.4 a0.1.5 b0 b1 ∧ turnG b0 b1 < (0 : Int) ∧ a1 = 10) ∨ onG a0.1.4 a0.1.5 ∧ ¬(a0.4 ≤ a0.1.6 ∧ a0.5 ≤ a0.1.7)
 ∧ a1 = 21
abbrev QYwd_6 (a0 : PuO) : Prop := 0 = 0 ∧ Z2 ∧ Z2 ∧ Z2 ∧ Z1 a0.1.5.4 ∧ Z1 a0.1.5.5 ∧ Z1 a0.1.5.6 ∧ Z1 a0.1.5.7 ∧ Z1 a0.1.5.8 ∧ Z2 ∧ QYwd_2 a0.3
abbrev QYwd_7 (a0 : StA) : Prop := 3 = 3 ∧ 0 = 0 ∧ Z2 ∧ Z2 ∧ Z2 ∧ Z1 a0.1.1 ∧ Z1 a0.1.2 ∧ Z1 a0.1.3 ∧ Z1 a0.1.4 ∧ Z1 a0.1.5 ∧ Z2 ∧ 0 = 0 ∧ Z2 ∧ Z2 ∧ Z2 ∧ Z1 a0.2.1 ∧ Z1 a0.2.2 ∧ Z1
 a0.2.3 ∧ Z1 a0.2.4 ∧ Z1 a0.2.5 ∧ Z2 ∧ QYwd_2 a0.5
abbrev QYwd_8 (a0 : PoA) : Prop := 0 = 0 ∧ 0 = 0 ∧ (Z2 ∧ Z2 ∧ Z2 ∧ Z1 a0.4 ∧ Z1 a0.5 ∧ Z1 a0.6 ∧ Z1 a0.7 ∧ Z1 a0.8 ∧ True) ∧ Z2 ∧ True
abbrev QYwd_9 (a0 : PuO) : Prop := True ∧ (isGx a0.1.4 a0.1.5 ∧ isGx a0.2 a0.3) ∧ (smQ a0.1.6 ∧ smQ a0.1.7) ∧ smQ a0.4 ∧ smQ a0.5
theorem vc_lsame (a : S4A) : G_lsame a = ((a.1 ≠ a.3 → (∃ (_ : Unit), True ∧ true = false ∧ True)) ∧ (¬(a.1 ≠ a.3) → (a.2 ≠ a.4 → (∃ (_ : Unit), True ∧ true = false ∧ True)) ∧ (¬(a.2 ≠ a.4) → ∃ (_ : Unit), True ∧ true =
true ∧ True))) := by kernel_rfl
theorem g_lsame (a : S4A) (hx : a.x = a.u) (hy : a.y = a.v) : GW (G_lsame a) := by
  refine ⟨?_⟩
  rw [vc_lsame]
  (repeat(apply And.intro;focus(and_intros<;>first|trivial|rfl)))
  refine ⟨fun h => absurd hx h, fun _ => ?_⟩
  (repeat(apply And.intro;focus(and_intros<;>first|trivial|rfl)))
  refine ⟨fun h => absurd hy h, fun _ => ?_⟩
  (repeat(apply And.intro;focus(and_intros<;>first|trivial|rfl)))
  refine ⟨(), ?_⟩
  (and_intros<;>first|trivial|rfl)
theorem s_lsame : SpecOK Tryz.prog S_lsame.spec := fun a => specG_at (an := []) envOK (cwX_ok (fun _ h => h) 2) fun hp => g_lsame a hp.1 hp.2
theorem s_doM1 : SpecOK Tryz.prog S_doM1.spec := fun a K hp hq => spec_to (S := S_do1) (T := S_doM1) (a := a) (b := a) rfl rfl rfl rfl (s_do1 a) hp (fun _ hq => ⟨hq.1, hq.2.1, fun b hb => hq.2.2.1 ⟨b.g, b.p, b.b, _, _⟩ ⟨hb, rfl, rfl⟩, trivial⟩) K hp hq
theorem s_doM2 : SpecOK Tryz.prog S_doM2.spec := fun a K hp hq => spec_to (S := S_do2) (T := S_doM2) (a := a) (b := a) rfl rfl rfl rfl (s_do2 a) hp (fun _ hq => ⟨hq.1, hq.2.1, fun b hb => hq.2.2.1 ⟨b.g, b.p, b.b, _, _⟩ ⟨hb, rfl, rfl⟩, fun b hb => hq.2.2.2.1 ⟨b, _, _⟩ ⟨hb, rfl, rfl⟩, trivial⟩) K hp hq
theorem s_doM3 : SpecOK Tryz.prog S_doM3.spec := fun a K hp hq => spec_to (S := S_do3) (T := S_doM3) (a := a) (b := a) rfl rfl rfl rfl (s_do3 a) hp (fun _ hq => ⟨hq.1, hq.2.1, fun b hb => hq.2.2.1 ⟨b.g, b.p, b.b, _, _⟩ ⟨hb, rfl, rfl⟩, fun b hb => hq.2.2.2.1 ⟨b, _, _⟩ ⟨hb, rfl, rfl⟩, trivial⟩) K hp hq
theorem s_doM4 : SpecOK Tryz.prog S_doM4.spec := fun a K hp hq => spec_to (S := S_do4) (T := S_doM4) (a := a) (b := a) rfl rfl rfl rfl (s_do4 a) hp (fun _ hq => ⟨hq.1, hq.2.1, fun b hb => hq.2.2.1 ⟨b, _, _⟩ ⟨hb, rfl, rfl⟩, trivial⟩) K hp hq
theorem s_doV : SpecOK Tryz.prog S_doV.spec := fun a K hp hq => by
  have hp : doV a := hp
  obtain ⟨⟨hd, h2⟩, k, j, m, hi, hm⟩ := hp
  have no : ∀ {n : Int}, a.w % 5 = n → 2 < n → False := fun h1 h3 => by omega
  exact spec_to (S := S_do1) (T := S_doV) (a := a) (b := a) rfl rfl rfl rfl (s_do1 a) hd (fun _ hq => ⟨hq.1, fun b hb => by
    obtain ⟨h4, k', j', h5, h6⟩ := hb.2 h2
    obtain ⟨rfl, rfl⟩ := isG_inj hi h5
    rw [hm] at h6
    exfalso; omega, fun b hb => (no (hb.1) (by decide)).elim, trivial⟩) K ⟨⟨hd, h2⟩, k, j, m, hi, hm⟩ hq
theorem s_doF : SpecOK Tryz.prog S_doF.spec := fun a K hp hq => by
  have hp : doF a := hp
  obtain ⟨⟨hd, h2⟩, k, j, hi, hm⟩ := hp
  have no : ∀ {n : Int}, a.w % 5 = n → 2 < n → False := fun h1 h3 => by omega
  exact spec_to (S := S_do1) (T := S_doF) (a := a) (b := a) rfl rfl rfl rfl (s_do1 a) hd (fun _ hq => ⟨fun b hb => by
    obtain ⟨k', j', x, h5, h6, -⟩ := hb
    obtain ⟨rfl, rfl⟩ := isG_inj hi h5
    exfalso; omega, hq.1, fun b hb => (no (hb.1) (by decide)).elim, trivial⟩) K ⟨⟨hd, h2⟩, k, j, hi, hm⟩ hq
theorem s_doN2 : SpecOK Tryz.prog (S_doN 2).spec := fun a K hp hq => by
  have hp : doN 2 a := hp
  have no : ∀ {n : Int}, a.w % 5 = n → 2 < n → False := fun h1 h2 => by have := hp.2; omega
  exact spec_to (S := S_do2) (T := S_doN 2) (a := a) (b := a) rfl rfl rfl rfl (s_do2 a) hp.1 (fun _ hq => ⟨hq.1, hq.2.1, fun b hb => (no (hb.1) (by decide)).elim, fun b hb => (no (hb.1) (by decide)).elim, trivial⟩) K hp hq
theorem s_doN3 : SpecOK Tryz.prog (S_doN 3).spec := fun a K hp hq => by
  have hp : doN 3 a := hp
  have no : ∀ {n : Int}, a.w % 5 = n → 2 < n → False := fun h1 h2 => by have := hp.2; omega
  exact spec_to (S := S_do3) (T := S_doN 3) (a := a) (b := a) rfl rfl rfl rfl (s_do3 a) hp.1 (fun _ hq => ⟨hq.1, hq.2.1, fun b hb => (no (hb.1) (by decide)).elim, fun b hb => (no (hb.1) (by decide)).elim, trivial⟩) K hp hq
theorem s_doN4 : SpecOK Tryz.prog (S_doN 4).spec := fun a K hp hq => by
  have hp : doN 4 a := hp
  have no : ∀ {n : Int}, a.w % 5 = n → 2 < n → False := fun h1 h2 => by have := hp.2; omega
  exact spec_to (S := S_do4) (T := S_doN 4) (a := a) (b := a) rfl rfl rfl rfl (s_do4 a) hp.1 (fun _ hq => ⟨hq.1, hq.2.1, fun b hb => (no (hb.1) (by decide)).elim, trivial⟩) K hp hq
set_option maxHeartbeats 3200000 in
theorem vc_pushZ1 (a : PuO) : G_pushZ1 a = (QYwd_9 a ∧ (QYwd_8 a.3 ∧ (True ∧ Z1 a.4 ∧ Z1 a.5 ∧ True) ∧ (True ∧ (0 = 0 ∧ 1 = 1 ∧ 1 = 1) ∧ True) ∧ (1 = 1 ∧ QYwd_2 a.1.5) ∧ (2 = 2 ∧ Z1 a.1.6 ∧ Z1 a.1.7 ∧ True) ∧ QYwd_1 a) ∧ (∀
(_ : Unit), onG a.1.4 a.1.5 ∧ a.4 ≤ a.1.6 ∧ a.5 ≤ a.1.7 → ∃ (_ : Unit), (∃ (x2 x3 : Nat), isG a.1.4 a.1.5 x2 x3 ∧ (0 : Int) ≤ turnG x2 x3) ∧ (0 : Int) = 0 ∧ (True ∧ Z2 ∧ True) ∧ (2
= 2 ∧ QYwd_6 a) ∧ QYwd_3 a) ∧ (∀ (x4 : TnB), QYwd_5 a x4.1 → ∃ (_ : Unit), True ∧ 10 = x4.1 ∧ (True ∧ (0 = 0 ∧ 1 = 1 ∧ 1 = 1) ∧ True) ∧ (1 = 1 ∧ QYwd_2 a.1.5) ∧ (2 = 2 ∧ Z1 a.1.6 ∧
Z1 a.1.7 ∧ True) ∧ True) ∧ True) := by kernel_rfl
theorem g_pushZ1 (a : PuO) (hp : (S_pushZ 1).pre a) : G_pushZ1 a := by
  obtain ⟨⟨⟨G1, G2⟩, ⟨X1, Y1⟩, X2, Y2⟩, z1, z2⟩ := hp
  obtain ⟨k, j, hi⟩ := id G1
  obtain ⟨f1, f2, f3, f4, f5, f6, f7, f8, f9, f10, f11⟩ := flG_of hi
  obtain ⟨k', j', hi'⟩ := id G2
  obtain ⟨g1, g2, g3, g4, g5, g6, g7, g8, g9, g10, g11⟩ := flG_of hi'
  have f12 := fl11
  have f13 := fl00
  have gl0 : FlatL cells0 := flatAll (by kernel_rfl)
  have gl1 : FlatL cells1 := flatAll (by kernel_rfl)
  have gl2 : FlatL cells2 := flatAll (by kernel_rfl)
  have gl4 : FlatL cells4 := flatAll (by kernel_rfl)
  have gl5 : FlatL cells5 := flatAll (by kernel_rfl)
  have gl6 : FlatL cells6 := flatAll (by kernel_rfl)
  have gl8 : FlatL cells8 := flatAll (by kernel_rfl)
  have gl9 : FlatL cells9 := flatAll (by kernel_rfl)
  have gl10 : FlatL cells10 := flatAll (by kernel_rfl)
  have q1 : a.s.x - a.x = a.s.x := by omega
  have q2 : a.s.y - a.y = a.s.y := by omega
  have q3 := q1.symm
  have q4 := q2.symm
  have z3 := z1.symm
  have z4 := z2.symm
  have z5 : Int.ofNat 0 = a.x := z3
  have z6 : Int.ofNat 0 = a.y := z4
  obtain ⟨l1, l2⟩ := id X1
  obtain ⟨l3, l4⟩ := id Y1
  obtain ⟨l5, l6⟩ := id X2
  obtain ⟨l7, l8⟩ := id Y2
  rw [vc_pushZ1]
  (repeat(apply And.intro;focus(and_intros<;>first|trivial|rfl)))
  refine ⟨fun _ hok => ?_, fun er her => ?_, trivial⟩
  · obtain ⟨ho, -⟩ := hok
    have ho : ∃ k j, isG a.s.g a.s.p k j ∧ 0 ≤ turnG k j := ho
    (repeat(apply And.intro;focus(and_intros<;>first|trivial|rfl)))
    refine ⟨(), ?_⟩
    (and_intros<;>first|trivial|rfl)
  · have e : er.k = 10 := by
      rcases her with ⟨_, _, _, _, h⟩ | ⟨_, h, _⟩
      · exact h
      · exact absurd ⟨by show a.x ≤ a.s.x; rw [z1]; exact X1.1, by show a.y ≤ a.s.y; rw [z2]; exact Y1.1⟩ h
    have e' := e.symm
    (repeat(apply And.intro;focus(and_intros<;>first|trivial|rfl)))
    refine ⟨(), ?_⟩
    (and_intros<;>first|trivial|rfl)
theorem s_pushZ1 : SpecOK Tryz.prog (S_pushZ 1).spec := fun a K hp hq => spec_call (S := S_pushO 1) (T := S_pushZ 1) (b := a) rfl s_pushO1 (g_pushZ1 a hp) K hp hq
set_option maxHeartbeats 3200000 in
theorem vc_pushZ2 (a : PuO) : G_pushZ2 a = (QYwd_9 a ∧ (QYwd_8 a.3 ∧ (True ∧ Z1 a.4 ∧ Z1 a.5 ∧ True) ∧ (True ∧ Z2 ∧ True) ∧ (2 = 2 ∧ 0 = 0 ∧ Z2 ∧ Z2 ∧ Z2 ∧ Z1 a.1.1.1 ∧ Z1 a.1.1.2 ∧ Z1 a.1.1.3 ∧ Z1 a.1.1.4 ∧ Z1 a.1.1.5 ∧ Z2
∧ QYwd_2 a.1.5) ∧ (2 = 2 ∧ Z1 a.1.1.6 ∧ Z1 a.1.1.7 ∧ True) ∧ (2 = 2 ∧ Z1 a.1.6 ∧ Z1 a.1.7 ∧ True) ∧ (True ∧ True) ∧ (True ∧ True) ∧ (True ∧ True) ∧ (True ∧ True) ∧ QYwd_1 a) ∧ (∀
(_ : Unit), onG a.1.4 a.1.5 ∧ a.4 ≤ a.1.6 ∧ a.5 ≤ a.1.7 → ∃ (_ : Unit), (∃ (x2 x3 : Nat), isG a.1.4 a.1.5 x2 x3 ∧ (0 : Int) ≤ turnG x2 x3) ∧ (0 : Int) = 0 ∧ (True ∧ (0 = 0 ∧ 3 = 3
∧ 3 = 3) ∧ True) ∧ (3 = 3 ∧ 0 = 0 ∧ Z2 ∧ Z2 ∧ Z2 ∧ Z1 a.1.1.1 ∧ Z1 a.1.1.2 ∧ Z1 a.1.1.3 ∧ Z1 a.1.1.4 ∧ Z1 a.1.1.5 ∧ Z2 ∧ QYwd_6 a) ∧ (2 = 2 ∧ Z1 a.1.1.6 ∧ Z1 a.1.1.7 ∧ True) ∧
QYwd_3 a) ∧ (∀ (x4 : TnB), QYwd_5 a x4.1 → ∃ (_ : Unit), True ∧ 10 = x4.1 ∧ (True ∧ Z2 ∧ True) ∧ (2 = 2 ∧ 0 = 0 ∧ Z2 ∧ Z2 ∧ Z2 ∧ Z1 a.1.1.1 ∧ Z1 a.1.1.2 ∧ Z1 a.1.1.3 ∧ Z1 a.1.1.4 ∧
Z1 a.1.1.5 ∧ Z2 ∧ QYwd_2 a.1.5) ∧ (2 = 2 ∧ Z1 a.1.1.6 ∧ Z1 a.1.1.7 ∧ True) ∧ (2 = 2 ∧ Z1 a.1.6 ∧ Z1 a.1.7 ∧ True) ∧ True) ∧ True) := by kernel_rfl
theorem g_pushZ2 (a : PuO) (hp : (S_pushZ 2).pre a) : G_pushZ2 a := by
  obtain ⟨⟨⟨G1, G2⟩, ⟨X1, Y1⟩, X2, Y2⟩, z1, z2⟩ := hp
  obtain ⟨k, j, hi⟩ := id G1
  obtain ⟨f1, f2, f3, f4, f5, f6, f7, f8, f9, f10, f11⟩ := flG_of hi
  obtain ⟨k', j', hi'⟩ := id G2
  obtain ⟨g1, g2, g3, g4, g5, g6, g7, g8, g9, g10, g11⟩ := flG_of hi'
  have f12 := fl11
  have f13 := fl00
  have gl0 : FlatL cells0 := flatAll (by kernel_rfl)
  have gl1 : FlatL cells1 := flatAll (by kernel_rfl)
  have gl2 : FlatL cells2 := flatAll (by kernel_rfl)
  have gl4 : FlatL cells4 := flatAll (by kernel_rfl)
  have gl5 : FlatL cells5 := flatAll (by kernel_rfl)
  have gl6 : FlatL cells6 := flatAll (by kernel_rfl)
  have gl8 : FlatL cells8 := flatAll (by kernel_rfl)
  have gl9 : FlatL cells9 := flatAll (by kernel_rfl)
  have gl10 : FlatL cells10 := flatAll (by kernel_rfl)
  have q1 : a.s.x - a.x = a.s.x := by omega
  have q2 : a.s.y - a.y = a.s.y := by omega
  have q3 := q1.symm
  have q4 := q2.symm
  have z3 := z1.symm
  have z4 := z2.symm
  have z5 : Int.ofNat 0 = a.x := z3
  have z6 : Int.ofNat 0 = a.y := z4
  obtain ⟨l1, l2⟩ := id X1
  obtain ⟨l3, l4⟩ := id Y1
  obtain ⟨l5, l6⟩ := id X2
  obtain ⟨l7, l8⟩ := id Y2
  rw [vc_pushZ2]
  (repeat(apply And.intro;focus(and_intros<;>first|trivial|rfl)))
  refine ⟨fun _ hok => ?_, fun er her => ?_, trivial⟩
  · obtain ⟨ho, -⟩ := hok
    have ho : ∃ k j, isG a.s.g a.s.p k j ∧ 0 ≤ turnG k j := ho
    (repeat(apply And.intro;focus(and_intros<;>first|trivial|rfl)))
    refine ⟨(), ?_⟩
    (and_intros<;>first|trivial|rfl)
  · have e : er.k = 10 := by
      rcases her with ⟨_, _, _, _, h⟩ | ⟨_, h, _⟩
      · exact h
      · exact absurd ⟨by show a.x ≤ a.s.x; rw [z1]; exact X1.1, by show a.y ≤ a.s.y; rw [z2]; exact Y1.1⟩ h
    have e' := e.symm
    (repeat(apply And.intro;focus(and_intros<;>first|trivial|rfl)))
    refine ⟨(), ?_⟩
    (and_intros<;>first|trivial|rfl)
theorem s_pushZ2 : SpecOK Tryz.prog (S_pushZ 2).spec := fun a K hp hq => spec_call (S := S_pushO 2) (T := S_pushZ 2) (b := a) rfl s_pushO2 (g_pushZ2 a hp) K hp hq
set_option maxHeartbeats 3200000 in
theorem vc_pushZ3 (a : PuO) : G_pushZ3 a = (QYwd_9 a ∧ (QYwd_8 a.3 ∧ (True ∧ Z1 a.4 ∧ Z1 a.5 ∧ True) ∧ (True ∧ (0 = 0 ∧ 3 = 3 ∧ 3 = 3) ∧ True) ∧ QYwd_7 a.1 ∧ (2 = 2 ∧ Z1 a.1.1.6 ∧ Z1 a.1.1.7 ∧ True) ∧ (2 = 2 ∧ Z1 a.1.2.6 ∧
Z1 a.1.2.7 ∧ True) ∧ (2 = 2 ∧ Z1 a.1.6 ∧ Z1 a.1.7 ∧ True) ∧ (True ∧ True) ∧ (True ∧ True) ∧ (True ∧ True) ∧ (True ∧ True) ∧ (True ∧ True) ∧ (True ∧ True) ∧ (True ∧ True) ∧ (True ∧
True) ∧ QYwd_1 a) ∧ (∀ (_ : Unit), onG a.1.4 a.1.5 ∧ a.4 ≤ a.1.6 ∧ a.5 ≤ a.1.7 → ∃ (_ : Unit), (∃ (x2 x3 : Nat), isG a.1.4 a.1.5 x2 x3 ∧ (0 : Int) ≤ turnG x2 x3) ∧ (0 : Int) = 0 ∧
(True ∧ (0 = 0 ∧ 4 = 4 ∧ 4 = 4) ∧ True) ∧ (4 = 4 ∧ 0 = 0 ∧ Z2 ∧ Z2 ∧ Z2 ∧ Z1 a.1.1.1 ∧ Z1 a.1.1.2 ∧ Z1 a.1.1.3 ∧ Z1 a.1.1.4 ∧ Z1 a.1.1.5 ∧ Z2 ∧ 0 = 0 ∧ Z2 ∧ Z2 ∧ Z2 ∧ Z1 a.1.2.1 ∧
Z1 a.1.2.2 ∧ Z1 a.1.2.3 ∧ Z1 a.1.2.4 ∧ Z1 a.1.2.5 ∧ Z2 ∧ QYwd_6 a) ∧ (2 = 2 ∧ Z1 a.1.1.6 ∧ Z1 a.1.1.7 ∧ True) ∧ (2 = 2 ∧ Z1 a.1.2.6 ∧ Z1 a.1.2.7 ∧ True) ∧ QYwd_3 a) ∧ (∀ (x4 :
TnB), QYwd_5 a x4.1 → ∃ (_ : Unit), True ∧ 10 = x4.1 ∧ (True ∧ (0 = 0 ∧ 3 = 3 ∧ 3 = 3) ∧ True) ∧ QYwd_7 a.1 ∧ (2 = 2 ∧ Z1 a.1.1.6 ∧ Z1 a.1.1.7 ∧ True) ∧ (2 = 2 ∧ Z1 a.1.2.6 ∧ Z1
a.1.2.7 ∧ True) ∧ (2 = 2 ∧ Z1 a.1.6 ∧ Z1 a.1.7 ∧ True) ∧ True) ∧ True) := by kernel_rfl
theorem g_pushZ3 (a : PuO) (hp : (S_pushZ 3).pre a) : G_pushZ3 a := by
  obtain ⟨⟨⟨G1, G2⟩, ⟨X1, Y1⟩, X2, Y2⟩, z1, z2⟩ := hp
  obtain ⟨k, j, hi⟩ := id G1
  obtain ⟨f1, f2, f3, f4, f5, f6, f7, f8, f9, f10, f11⟩ := flG_of hi
  obtain ⟨k', j', hi'⟩ := id G2
  obtain ⟨g1, g2, g3, g4, g5, g6, g7, g8, g9, g10, g11⟩ := flG_of hi'
  have f12 := fl11
  have f13 := fl00
  have gl0 : FlatL cells0 := flatAll (by kernel_rfl)
  have gl1 : FlatL cells1 := flatAll (by kernel_rfl)
  have gl2 : FlatL cells2 := flatAll (by kernel_rfl)
  have gl4 : FlatL cells4 := flatAll (by kernel_rfl)
  have gl5 : FlatL cells5 := flatAll (by kernel_rfl)
  have gl6 : FlatL cells6 := flatAll (by kernel_rfl)
  have gl8 : FlatL cells8 := flatAll (by kernel_rfl)
  have gl9 : FlatL cells9 := flatAll (by kernel_rfl)
  have gl10 : FlatL cells10 := flatAll (by kernel_rfl)
  have q1 : a.s.x - a.x = a.s.x := by omega
  have q2 : a.s.y - a.y = a.s.y := by omega
  have q3 := q1.symm
  have q4 := q2.symm
  have z3 := z1.symm
  have z4 := z2.symm
  have z5 : Int.ofNat 0 = a.x := z3
  have z6 : Int.ofNat 0 = a.y := z4
  obtain ⟨l1, l2⟩ := id X1
  obtain ⟨l3, l4⟩ := id Y1
  obtain ⟨l5, l6⟩ := id X2
  obtain ⟨l7, l8⟩ := id Y2
  rw [vc_pushZ3]
  (repeat(apply And.intro;focus(and_intros<;>first|trivial|rfl)))
  refine ⟨fun _ hok => ?_, fun er her => ?_, trivial⟩
  · obtain ⟨ho, -⟩ := hok
    have ho : ∃ k j, isG a.s.g a.s.p k j ∧ 0 ≤ turnG k j := ho
    (repeat(apply And.intro;focus(and_intros<;>first|trivial|rfl)))
    refine ⟨(), ?_⟩
    (and_intros<;>first|trivial|rfl)
  · have e : er.k = 10 := by
      rcases her with ⟨_, _, _, _, h⟩ | ⟨_, h, _⟩
      · exact h
      · exact absurd ⟨by show a.x ≤ a.s.x; rw [z1]; exact X1.1, by show a.y ≤ a.s.y; rw [z2]; exact Y1.1⟩ h
    have e' := e.symm
    (repeat(apply And.intro;focus(and_intros<;>first|trivial|rfl)))
    refine ⟨(), ?_⟩
    (and_intros<;>first|trivial|rfl)
theorem s_pushZ3 : SpecOK Tryz.prog (S_pushZ 3).spec := fun a K hp hq => spec_call (S := S_pushO 3) (T := S_pushZ 3) (b := a) rfl s_pushO3 (g_pushZ3 a hp) K hp hq
theorem cwIn_ok : CwOK Tryz.prog (cwX cwIn 5) := cwX_ok (fun _ h => cwD_ok s_known (cwD_ok s_few (cwD_ok s_begin (cwE_ok s_doV (cwE_ok s_doF (cwE_ok s_doN2 (cwE_ok s_doN3 (cwE_ok s_doN4 (cwE_ok s_doM1 (cwE_ok s_doM2 (cwE_ok s_doM3 (cwE_ok s_doM4
  (cwD_ok s_startG (cwE_ok s_pushZ1 (cwE_ok s_pushZ2 (cwE_ok s_pushZ3 (cwE_ok s_pushO4 (cwD_ok s_new1 (cwD_ok s_gturn (cwD_ok s_gclone (cwE_ok s_cl2 (cwD_ok s_gsame (cwD_ok s_lsame h))))))))))))))))))))))) 5
end Go.Proofs.YtfkacmmcgncooaaGreatDoor
end
