/- A table that is begun and not played at changes nothing of what is paid: the law (what is to be shown). -/
import Derived.Test.YtfkacmmcgncooaaGreatDoorYw0
section
set_option maxRecDepth 100000
namespace Go.Proofs.YtfkacmmcgncooaaGreatDoor
open Go.Ev
-- keep Go.Proofs.Tryz.prog Go.Ev.FX twoX actX1 actsX isG isGx smQ turnG payR doP doQ allS sumX sumY actG monJ errQ movQ begQ endQ begM endM popE posG rulG allG onG erO stQ cells0 cells1 cells2 cells4 cells5 cells6 cells8 cells9 cells10
structure BkA where
 w : Int
 n : Int
 x : Int
 y : Int
 v : Option Addr
 l : Nat
 c : Nat
 p : Int
 q : Int
structure BkB where
 t : PyA
 i : Int
 g : RuA
 p : PoA
def stQ (g : RuA) (p : PoA) : Prop := ∃ k, isG g p k 0
variable [Frozen Tryz.prog]
noncomputable section
def BkA.m (a : BkA) : MnA := ⟨a.w, a.x, a.y, a.v, a.l, a.c⟩
def bkN : Nat := popN 4
def bkR (a : BkA) (g : RuA) (p : PoA) : List (Nat × PO) := ruR g bkN ++ (poR p (bkN + 12) ++ [(bkN + 15, .p (.row (agv (poT p (bkN + 12))) 37 .own)), (bkN + 16, .p (.row [tgI .u16 a.p, tgI .u16 a.q] 23 .own))])
def bkM (A : AW) (u v x : Value) : List (Nat × Nat) := let c := rowO A (ptI v)
 ruN A bkN u ++ [(bkN + 12, blI (lv c 0)), (bkN + 13, blI (lv c 1)), (bkN + 14, blI (lv c 2)), (bkN + 15, ptI v), (bkN + 16, ptI x)]
def lcB (d : Nat) (a : BkA) : LC where
 β := BkB
 at_ e := ⟨[(9, .pointer (some ⟨bkN + 16, 0, none⟩)), (11, .pointer (some ⟨12, 0, none⟩)), (12, .pointer (some ⟨bkN, 0, none⟩)), (13, .pointer (some ⟨bkN + 15, 0, none⟩)), (49, .iface EXT (.slice a.v a.l a.c)), (50, tgI .i64 a.l), (51, tgI .i64 e.i)], lawR d e.t ++ bkR a e.g e.p, bkN + 17⟩
 J e := monJ d a.m ⟨e.t, e.i⟩ /\ stQ e.g e.p
 μ e := (a.l - e.i).toNat
 ren s := pvN d s.A (tv s 11) ++ bkM s.A (tv s 12) (tv s 13) (tv s 9)
def la_back (a : BkA) : LA := { α := Unit, at_ := fun _ => ⟨[], [], 0⟩, J := fun _ => True, μ := fun _ => 0, ren := fun _ => [], mc := some ([lcB 1 a, lcB 2 a, lcB 3 a, lcB 4 a], fun s => Nat.pred (deepI s.A (tv s 11))) }
def S_back : SpecD where
 f := 5
 α := BkA
 args a := [tgI .u8 a.w, tgI .u8 a.n, .agg ⟨[tgI .u16 a.x, tgI .u16 a.y]⟩, .iface EXT (.slice a.v a.l a.c), .agg ⟨[tgI .u16 a.p, tgI .u16 a.q]⟩]
 R _ := [(0, .f cells0 327 .ro), (1, .f cells1 333 .ro), (2, .f cells2 356 .ro), (4, .f cells4 327 .ro), (5, .f cells5 368 .ro), (6, .f cells6 381 .ro), (8, .f cells8 385 .ro), (9, .f cells9 388 .ro), (10, .f cells10 389 .ro)]
 n := 12
 pre a := (((0 <= a.w /\ a.w < 256) /\ 0 <= a.n /\ a.n < 256) /\ ((0 <= a.x /\ a.x < 65536) /\ 0 <= a.y /\ a.y < 65536) /\ (0 <= a.p /\ a.p < 65536) /\ 0 <= a.q /\ a.q < 65536) /\ actsX a.v a.l
 outs := [⟨Unit, fun _ _ => True, fun _ _ => .bool true, fun _ _ => [], fun _ _ => 12, fun _ _ => []⟩]
 pick _ _ := 0
 find _ _ := none
def cwBk (c : CW) : CW := cwLw (cwD Tryz.prog S_startG (cwE Tryz.prog (S_pushO 1) (cwE Tryz.prog (S_pushO 2) (cwE Tryz.prog (S_pushO 3) (cwE Tryz.prog S_pushO4 (cwD Tryz.prog S_gclone (cwE Tryz.prog S_cl2 (cwD Tryz.prog S_lsame c))))))))
def G_back (a : BkA) : Prop := fnW Tryz.prog E0 (cwX cwBk 5) [some (la_back a)] S_back.f (S_back.args a) (mem (S_back.R a) S_back.n) (endD Tryz.prog S_back a)
end
end Go.Proofs.YtfkacmmcgncooaaGreatDoor
end

/- A table that is begun and not played at changes nothing of what is paid (plain). -/
section
set_option maxRecDepth 100000
namespace Go.Proofs.YtfkacmmcgncooaaGreatDoor
open Go.Ev
set_option linter.unusedSectionVars false
variable [Go.Ev.Frozen Tryz.prog]
theorem payD_fun {M : Nat} {a : PyA} {b c : XyB} (h : PayD M a b) (h' : PayD M a c) : c.x = b.x /\ c.y = b.y := chL_fun h'.h h.h
theorem gvT_go {t : GvA} {k j : Nat} {x y p q : Int} (hi : isG t.g t.p k j) (ho : 0 <= turnG k j) (h : gvT t x y p q) : p = t.x + x /\ q = t.y + y := by
 obtain ⟨k', j', hi', c⟩ := h
 obtain ⟨rfl, rfl⟩ := isG_inj hi hi'
 rcases c with ⟨-, h1, h2⟩ | ⟨h0, -⟩
 ·exact ⟨h1, h2⟩
 ·omega
theorem start_low : (allG.all fun q => !(Nat.beq q.2 0) || decide (0 <= turnG q.1 q.2)) = true := by kernel_rfl
theorem start_on {g : RuA} {p : PoA} {k : Nat} (h : isG g p k 0) : 0 <= turnG k 0 := by
 have := List.all_eq_true.1 start_low (k, 0) h.1
 exact of_decide_eq_true this
theorem back1 {t s : PyA} {b c : XyB} {k j n : Nat} (hi : isG t.a.g t.a.p k j) (ho : 0 <= turnG k j) (hn : isG s.b.g s.b.p n 0) (eg : s.a.g = t.a.g) (ep : s.a.p = t.a.p) (ex : s.a.x + s.b.x = t.a.x) (ey : s.a.y + s.b.y = t.a.y) (h : PayD 0 t b) (h' : PayD 1 s c) : c.x = b.x /\ c.y = b.y := by
 obtain ⟨e1, e2⟩ := gvT_go hi ho (payE0 h)
 obtain ⟨p, q, h1, h2⟩ := payE1 h'
 obtain ⟨rfl, rfl⟩ := gvT_go hn (start_on hn) h1
 obtain ⟨e3, e4⟩ := gvT_go (by rw [eg, ep]; exact hi) ho h2
 omega
theorem back2 {t s : PyA} {b c : XyB} {k j n : Nat} (hi : isG t.b.g t.b.p k j) (ho : 0 <= turnG k j) (hn : isG s.c.g s.c.p n 0) (e : s.a = t.a) (eg : s.b.g = t.b.g) (ep : s.b.p = t.b.p) (ex : s.b.x + s.c.x = t.b.x) (ey : s.b.y + s.c.y = t.b.y) (h : PayD 1 t b) (h' : PayD 2 s c) : c.x = b.x /\ c.y = b.y := by
 obtain ⟨p, q, h1, h2⟩ := payE1 h
 obtain ⟨rfl, rfl⟩ := gvT_go hi ho h1
 obtain ⟨p, q, h3, r, w, h4, h5⟩ := payE2 h'
 obtain ⟨rfl, rfl⟩ := gvT_go hn (start_on hn) h3
 obtain ⟨e3, e4⟩ := gvT_go (by rw [eg, ep]; exact hi) ho h4
 rw [e] at h5
 exact gvT_fun rfl rfl (by omega) (by omega) h5 h2
theorem back3 {t s : PyA} {b c : XyB} {k j n : Nat} (hi : isG t.c.g t.c.p k j) (ho : 0 <= turnG k j) (hn : isG s.e.g s.e.p n 0) (e : s.a = t.a) (f : s.b = t.b) (eg : s.c.g = t.c.g) (ep : s.c.p = t.c.p) (ex : s.c.x + s.e.x = t.c.x) (ey : s.c.y + s.e.y = t.c.y) (h : PayD 2 t b) (h' : PayD 3 s c) : c.x = b.x /\ c.y = b.y := by
 obtain ⟨p, q, h1, r, w, h2, h0⟩ := payE2 h
 obtain ⟨rfl, rfl⟩ := gvT_go hi ho h1
 obtain ⟨p, q, h3, r', w', h4, m, n', h5, h6⟩ := payE3 h'
 obtain ⟨rfl, rfl⟩ := gvT_go hn (start_on hn) h3
 obtain ⟨e3, e4⟩ := gvT_go (by rw [eg, ep]; exact hi) ho h4
 rw [f] at h5
 obtain ⟨rfl, rfl⟩ := gvT_fun rfl rfl (by omega) (by omega) h5 h2
 rw [e] at h6
 exact gvT_fun rfl rfl rfl rfl h6 h0
end Go.Proofs.YtfkacmmcgncooaaGreatDoor
end
