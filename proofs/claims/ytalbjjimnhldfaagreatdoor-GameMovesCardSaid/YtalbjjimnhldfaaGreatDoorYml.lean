/- The law of moves: what is to be shown. -/
import Derived.Test.YtalbjjimnhldfaaGreatDoorYmvP
import Derived.Test.YtalbjjimnhldfaaGreatDoorYenc
import Derived.Test.YtalbjjimnhldfaaGreatDoorKnownB
section
set_option maxRecDepth 100000
namespace Go.Proofs.YtalbjjimnhldfaaGreatDoor
open Go.Ev
-- keep num foldI dnum frm Go.Ev.Sli lookN Byts8 valN lead rdC wdC wsC decM endC unfI OwB Go.Ev.HV LC encM encMk encV MH RI q2C cells0 cells1 cells2 cells4 cells5 cells6 cells8 cells9 cells10
noncomputable section
def globR : List (Nat × PO) := [(0, .f cells0 329 .ro), (1, .f cells1 335 .ro), (2, .f cells2 359 .ro), (4, .f cells4 329 .ro), (5, .f cells5 370 .ro), (6, .f cells6 384 .ro), (8, .f cells8 388 .ro), (9, .f cells9 391 .ro), (10, .f cells10 392 .ro)]
def S_known : SpecD where
  f := 17
  α := Unit
  args _ := []
  R _ := globR
  n := 12
  pre _ := True
  outs := [⟨Unit, fun _ _ => True, fun _ _ => .bool true, fun _ _ => [], fun _ _ => 12, fun _ _ => []⟩]
  pick _ _ := 0
  find _ _ := some ((), [])
def S_ofm : SpecD where
  f := 19
  α := MA
  args a := [a.v 12]
  R a := a.R 12
  n := 12 + 1
  pre a := ∃ xs, MH a xs
  outs := [⟨Unit, fun _ _ => True, fun a _ => .agg ⟨tg (.bool a.t) :: mnS 12 a.s.n a.s.o (min a.s.l 8) a.s.k :: a.d.c⟩, fun _ _ => [], fun _ _ => 12 + 1, fun _ _ => []⟩]
  pick _ _ := 0
  find l A := maK A 12 (agv (lv l 0)) fun a r => some (a, r)
def G_ofm (a : MA) : Prop := fnW Tryz.prog E0 cw0 [] S_ofm.f (S_ofm.args a) (mem (S_ofm.R a) S_ofm.n) (endD Tryz.prog S_ofm a)
def S_tom : SpecD where
  f := 18
  α := MA
  args a := [a.v 12]
  R a := a.R 12
  n := 12 + 1
  pre a := (∃ xs, MH a xs) ∧ a.s.l ≤ 100
  outs := [⟨RW, fun a b => ∀ xs, MH a xs → LC ⟨false, a.s.l, b.k, b.c⟩ xs, fun a b => .agg ⟨tg (.bool a.t) :: mnS (12 + 1) false 0 a.s.l b.k :: a.d.c⟩, fun _ b => [(12 + 1, .f b.c 21 (.grown b.k))], fun _ _ => 12 + 2, fun v _ => renS (12 + 1) (lv (agv v) 1)⟩]
  pick _ _ := 0
  find l A := maK A 12 (agv (lv l 0)) fun a r => some (a, r)
def G_tom (a : MA) : Prop := fnW Tryz.prog E0 cw0 [] S_tom.f (S_tom.args a) (mem (S_tom.R a) S_tom.n) (endD Tryz.prog S_tom a)
def S_moves : SpecD where
  f := 4
  α := M2
  args a := [a.a.v 12, a.b.v (12 + 1)]
  R a := a.a.R 12 ++ a.b.R (12 + 1) ++ globR
  n := 12 + 2
  pre a := ∃ xs ys, MH a.a xs ∧ MH a.b ys
  outs := [⟨Unit, fun _ _ => True, fun _ _ => .bool true, fun _ _ => [], fun _ _ => 12 + 2, fun _ _ => []⟩]
  pick _ _ := 0
  find l A := maK A 12 (agv (lv l 0)) fun a r => maK A (12 + 1) (agv (lv l 1)) fun b q => some (⟨a, b⟩, r ++ q)
def cwMoves : CW := cwD Tryz.prog S_ofm (cwD Tryz.prog S_tom (cwD Tryz.prog S_encM (cwD Tryz.prog S_encM2 (cwD Tryz.prog S_same (cwD Tryz.prog S_sameM (cwD Tryz.prog S_decM (cwD Tryz.prog S_known cw0)))))))
def G_moves (a : M2) : Prop := fnW Tryz.prog E0 cwMoves [] S_moves.f (S_moves.args a) (mem (S_moves.R a) S_moves.n) (endD Tryz.prog S_moves a)
end
end Go.Proofs.YtalbjjimnhldfaaGreatDoor
end

/- Moves that are written are read: plain Lean. -/
section
set_option maxRecDepth 100000
namespace Go.Proofs.YtalbjjimnhldfaaGreatDoor
open Go.Ev
theorem dn_step {a b : Int} (h0 : 0 ≤ a) (h1 : a < 72057594037927936) (hb : byt b) : IntKind.wrap .u64 (IntKind.wrap .u64 (a * 256) + IntKind.wrap .u64 b) = a * 256 + b := by
  obtain ⟨b0, b1⟩ := hb
  rw [wrap_u64, wrap_u64 (a * 256), wrap_u64 b]
  omega
theorem dnum_eq {d : D8} (h : d.Ok) : dnum d.l = (((((((0 * 256 + d.d7) * 256 + d.d6) * 256 + d.d5) * 256 + d.d4) * 256 + d.d3) * 256 + d.d2) * 256 + d.d1) * 256 + d.d0 := by
  obtain ⟨⟨a0, b0⟩, ⟨a1, b1⟩, ⟨a2, b2⟩, ⟨a3, b3⟩, ⟨a4, b4⟩, ⟨a5, b5⟩, ⟨a6, b6⟩, ⟨a7, b7⟩⟩ := h
  show dnum [d.d0, d.d1, d.d2, d.d3, d.d4, d.d5, d.d6, d.d7] = _
  unfold dnum
  simp only [List.foldr_cons, List.foldr_nil]
  rw [dn_step (a := 0) (b := d.d7) (by omega) (by omega) ⟨a7, b7⟩, dn_step (b := d.d6) (by omega) (by omega) ⟨a6, b6⟩, dn_step (b := d.d5) (by omega) (by omega) ⟨a5, b5⟩, dn_step (b := d.d4) (by omega) (by omega) ⟨a4, b4⟩, dn_step (b := d.d3) (by omega) (by omega) ⟨a3, b3⟩,
    dn_step (b := d.d2) (by omega) (by omega) ⟨a2, b2⟩, dn_step (b := d.d1) (by omega) (by omega) ⟨a1, b1⟩, dn_step (b := d.d0) (by omega) (by omega) ⟨a0, b0⟩]
theorem frm_dnum {d : D8} (h : d.Ok) : frm (dnum d.l) = d := by
  rw [dnum_eq h]
  obtain ⟨⟨a0, b0⟩, ⟨a1, b1⟩, ⟨a2, b2⟩, ⟨a3, b3⟩, ⟨a4, b4⟩, ⟨a5, b5⟩, ⟨a6, b6⟩, ⟨a7, b7⟩⟩ := h
  obtain ⟨e0, e1, e2, e3, e4, e5, e6, e7⟩ := d
  dsimp only at a0 b0 a1 b1 a2 b2 a3 b3 a4 b4 a5 b5 a6 b6 a7 b7 ⊢
  unfold frm
  simp only [D8.mk.injEq]
  refine ⟨by omega, by omega, by omega, by omega, by omega, by omega, by omega, by omega⟩
theorem rdC_num {bs pre rest : List Int} {n : Nat} {p m : Int} (hb : bs = pre ++ (num n ++ rest)) (hn : n < 18446744073709551616) (hp : p = pre.length) :
    ((n : Int) ≤ m → rdC bs p 0 m = ⟨p + (num n).length, 0, n⟩) ∧ (m < n → rdC bs p 0 m = ⟨p, 2, 0⟩) := by
  have hd : bs.drop p.toNat = num n ++ rest := by rw [hb, hp]; simp
  have hl := lookN_num n hn rest
  rw [← hd] at hl
  refine ⟨fun h => ?_, fun h => ?_⟩
  · rw [rdC_ok (by simp) (by rw [hl]; simp) (by rw [hl]; show ¬ m < (n : Int); omega), hl]
  · rw [rdC_big (by simp) (by rw [hl]; simp) (by rw [hl]; exact h)]
def encL (xs : List Int) : List Int := xs.flatMap fun x => num (foldI x).toNat
theorem map_getD (xs : List Int) : (List.range xs.length).map (fun j => xs.getD j 0) = xs := by
  apply List.ext_getElem
  · simp
  · intro i h1 h2
    simp [List.getD, h2]
theorem encV_all (xs : List Int) : encV xs xs.length = encL xs := by
  have := congrArg (fun l : List Int => l.flatMap fun x => num (foldI x).toNat) (map_getD xs)
  simp only [List.flatMap_map] at this
  exact this
theorem unf_fold (y : Int) : unfI (foldI y) = y := by
  unfold unfI foldI
  split <;> split <;> omega
theorem wdC_num {bs pre rest : List Int} {y p : Int} (hb : bs = pre ++ (num (foldI y).toNat ++ rest)) (hy : -2147483648 ≤ y ∧ y ≤ 2147483647) (hp : p = pre.length) : wdC bs p 0 = ⟨p + (num (foldI y).toNat).length, 0, y⟩ := by
  obtain ⟨f0, f1⟩ := fold_in (a := y) ⟨by omega, by omega⟩
  have hr := (rdC_num (m := 18446744073709551615) hb (by omega) hp).1 (by omega)
  have hu : unfI (rdC bs p 0 18446744073709551615).n = y := by
    rw [hr]
    show unfI (((foldI y).toNat : Nat) : Int) = y
    rw [Int.toNat_of_nonneg f0, unf_fold]
  rw [wdC_ok (by rw [hu]; omega), hu, hr, wrap_i32']
  show WR.mk _ _ _ = _
  rw [show (y + 2147483648) % 4294967296 - 2147483648 = y by omega]
theorem wsC_enc {bs rest : List Int} : ∀ (ys pre : List Int) {p : Int}, bs = pre ++ (encL ys ++ rest) → (∀ n ∈ ys, -2147483648 ≤ n ∧ n ≤ 2147483647) → p = pre.length → wsC bs ys.length p 0 = ⟨p + (encL ys).length, 0, ys⟩ := by
  intro ys
  induction ys with
  | nil => intro pre p hb _ hp; show LW.mk p 0 [] = _; simp [encL]
  | cons y ys ih =>
    intro pre p hb hw hp
    have h1 : bs = pre ++ (num (foldI y).toNat ++ (encL ys ++ rest)) := by rw [hb]; simp [encL]
    have hd := wdC_num h1 (hw y (by simp)) hp
    have h2 := ih (pre ++ num (foldI y).toNat) (p := p + (num (foldI y).toNat).length) (by rw [h1]; simp) (fun n hn => hw n (by simp [hn])) (by rw [hp]; simp)
    rw [List.length_cons, wsC_succ, hd]
    dsimp only
    rw [h2]
    simp [encL]
    omega
theorem dec_t {xs : List Int} {d : D8} (hd : d.Ok) : decM (encM true xs d) = ⟨0, true, [], d⟩ := by
  have hn := dnum_in d.l
  have hb : encM true xs d = [] ++ (num 1 ++ num (dnum d.l).toNat) := rfl
  generalize hbs : encM true xs d = bs at hb ⊢
  have r1 := (rdC_num (p := 0) (m := 1) hb (by decide) rfl).1 (by decide)
  have hb2 : bs = num 1 ++ (num (dnum d.l).toNat ++ []) := by rw [hb]; simp
  have r2 := (rdC_num (p := 0 + ((num 1).length : Nat)) (m := 18446744073709551615) hb2 (by omega) (by simp)).1 (by omega)
  rw [decM_t (by rw [r1]; rfl), r1]
  dsimp only
  rw [r2]
  dsimp only
  rw [endC_ok (by rw [hb]; simp), Int.toNat_of_nonneg hn.1, frm_dnum hd]
theorem dec_f {xs : List Int} {d : D8} (hw : ∀ n ∈ xs, -2147483648 ≤ n ∧ n ≤ 2147483647) (hl : xs.length ≤ 4) : decM (encM false xs d) = ⟨0, false, xs, d80⟩ := by
  have hb : encM false xs d = [] ++ (num 0 ++ (num xs.length ++ encL xs)) := by rw [← encV_all]; simp [encM]
  generalize hbs : encM false xs d = bs at hb ⊢
  have r1 := (rdC_num (p := 0) (m := 1) hb (by decide) rfl).1 (by decide)
  have hb2 : bs = num 0 ++ (num xs.length ++ encL xs) := by rw [hb]; simp
  have r2 := (rdC_num (p := 0 + ((num 0).length : Nat)) (m := 4) hb2 (by omega) (by simp)).1 (by omega)
  have hq : q2C bs = ⟨0 + ((num 0).length : Nat) + ((num xs.length).length : Nat), 0, xs.length⟩ := by unfold q2C; rw [r1]; exact r2
  have hb3 : bs = (num 0 ++ num xs.length) ++ (encL xs ++ []) := by rw [hb]; simp
  have r3 := wsC_enc xs (num 0 ++ num xs.length) (p := 0 + ((num 0).length : Nat) + ((num xs.length).length : Nat)) hb3 hw (by simp)
  rw [decM_f (by rw [r1]; show ¬ ((0 : Nat) : Int) = 1; decide), hq]
  dsimp only
  rw [Int.toNat_natCast, r3]
  dsimp only
  rw [endC_ok (by rw [hb3]; simp; omega)]
theorem dec_long {xs : List Int} {d : D8} (hl : 4 < xs.length) (hl2 : xs.length < 18446744073709551616) : (decM (encM false xs d)).e = 2 := by
  have hb : encM false xs d = [] ++ (num 0 ++ (num xs.length ++ encL xs)) := by rw [← encV_all]; simp [encM]
  generalize hbs : encM false xs d = bs at hb ⊢
  have r1 := (rdC_num (p := 0) (m := 1) hb (by decide) rfl).1 (by decide)
  have hb2 : bs = num 0 ++ (num xs.length ++ encL xs) := by rw [hb]; simp
  have r2 := (rdC_num (p := 0 + ((num 0).length : Nat)) (m := 4) hb2 (by omega) (by simp)).2 (by omega)
  have hq : q2C bs = ⟨0 + ((num 0).length : Nat), 2, 0⟩ := by unfold q2C; rw [r1]; exact r2
  rw [decM_f (by rw [r1]; show ¬ ((0 : Nat) : Int) = 1; decide), hq]
  show endC bs (0 + ((num 0).length : Nat)) 2 = 2
  exact endC_err (by decide)
end Go.Proofs.YtalbjjimnhldfaaGreatDoor
end

/- The law of moves: it is so. -/
set_option maxRecDepth 100000
namespace Go.Proofs.YtalbjjimnhldfaaGreatDoor
open Go.Ev
noncomputable section

def W_G_tom_0 : MA → Option AO := fun (a : MA) => Option.some (AO.row (Array.toList (Array.mk [Value.iface (1000000007 : Nat) (Value.bool a.1), Value.iface (1000000009 : Nat) (Value.agg (Array.mk [Value.bool a.2.1,
Value.slice (Option.some (Addr.mk (12 : Nat) a.2.2 Option.none)) a.2.3 a.2.4])), Value.iface (1000000007 : Nat) (Value.int IntKind.u8 a.3.1), Value.iface (1000000007 : Nat)
(Value.int IntKind.u8 a.3.2), Value.iface (1000000007 : Nat) (Value.int IntKind.u8 a.3.3), Value.iface (1000000007 : Nat) (Value.int IntKind.u8 a.3.4), Value.iface (1000000007 :
Nat) (Value.int IntKind.u8 a.3.5), Value.iface (1000000007 : Nat) (Value.int IntKind.u8 a.3.6), Value.iface (1000000007 : Nat) (Value.int IntKind.u8 a.3.7), Value.iface (1000000007
: Nat) (Value.int IntKind.u8 a.3.8)])) (52 : Nat) Md.own)
def W_G_moves_0 : M2 → Option AO := fun (a : M2) => Option.some (AO.row (Array.toList (Array.mk [Value.iface (1000000007 : Nat) (Value.bool a.2.1), Value.iface (1000000009 : Nat) (Value.agg (Array.mk [Value.bool
a.2.2.1, Value.slice (Option.some (Addr.mk (13 : Nat) a.2.2.2 Option.none)) a.2.2.3 a.2.2.4])), Value.iface (1000000007 : Nat) (Value.int IntKind.u8 a.2.3.1), Value.iface
(1000000007 : Nat) (Value.int IntKind.u8 a.2.3.2), Value.iface (1000000007 : Nat) (Value.int IntKind.u8 a.2.3.3), Value.iface (1000000007 : Nat) (Value.int IntKind.u8 a.2.3.4),
Value.iface (1000000007 : Nat) (Value.int IntKind.u8 a.2.3.5), Value.iface (1000000007 : Nat) (Value.int IntKind.u8 a.2.3.6), Value.iface (1000000007 : Nat) (Value.int IntKind.u8
a.2.3.7), Value.iface (1000000007 : Nat) (Value.int IntKind.u8 a.2.3.8)])) (43 : Nat) Md.own)
def W_G_moves_1 : M2 → RW → Option AO := fun (a : M2) (x8 : RW) => Option.some (AO.row [Value.iface (1000000007 : Nat) (Value.bool a.2.1), Value.iface (1000000009 : Nat) (Value.agg (Array.mk [Value.bool Bool.false,
Value.slice (Option.some (Addr.mk (Nat.add (Nat.add (Nat.add (Nat.add (Nat.succ (Nat.succ ((12 : Nat) + (2 : Nat)))) (Nat.sub ((12 : Nat) + (1 : Nat)) (13 : Nat))) (Nat.sub ((12 :
Nat) + (2 : Nat)) (13 : Nat))) (Nat.sub ((12 : Nat) + (1 : Nat)) (13 : Nat))) (0 : Nat)) (0 : Nat) Option.none)) (Min.min a.2.2.3 (8 : Nat)) x8.1])), Value.iface (1000000007 : Nat)
(Value.int IntKind.u8 a.2.3.1), Value.iface (1000000007 : Nat) (Value.int IntKind.u8 a.2.3.2), Value.iface (1000000007 : Nat) (Value.int IntKind.u8 a.2.3.3), Value.iface
(1000000007 : Nat) (Value.int IntKind.u8 a.2.3.4), Value.iface (1000000007 : Nat) (Value.int IntKind.u8 a.2.3.5), Value.iface (1000000007 : Nat) (Value.int IntKind.u8 a.2.3.6),
Value.iface (1000000007 : Nat) (Value.int IntKind.u8 a.2.3.7), Value.iface (1000000007 : Nat) (Value.int IntKind.u8 a.2.3.8)] (43 : Nat) Md.own)
end
theorem vc_ofm (a : MA) : G_ofm a = (∀ (x0 : Int), x0 = (↑a.2.3 : Int) → ∀ (x1 : Int), x1 = Min.min x0 (8 : Int) → (a.2.1 = Bool.true → ((0 : Int) = (0 : Int) ∧ x1 = (0 : Int)) ∧ (True ∧ True ∧ True ∧ True ∧ True ∧
True ∧ True ∧ True ∧ True ∧ True ∧ True ∧ True ∧ True ∧ True) ∧ ∃ (x2 : Unit), True ∧ (a.1 = a.1 ∧ (a.2.1 = Bool.true ∧ Min.min a.2.3 (8 : Nat) = (0 : Nat) ∧ a.2.4 = (0 : Nat)) ∧
a.3.1 = a.3.1 ∧ a.3.2 = a.3.2 ∧ a.3.3 = a.3.3 ∧ a.3.4 = a.3.4 ∧ a.3.5 = a.3.5 ∧ a.3.6 = a.3.6 ∧ a.3.7 = a.3.7 ∧ a.3.8 = a.3.8 ∧ True) ∧ True) ∧ (a.2.1 = Bool.false → (((0 : Int) ≤
(0 : Int) ∧ (0 : Int) ≤ x1 ∧ x1 ≤ (↑a.2.4 : Int)) ∧ (Bool.true = Bool.true → x1 ≤ (↑a.2.3 : Int) ∧ ((0 : Int) = (0 : Int) ∨ (0 : Int) < (↑a.2.4 : Int)))) ∧ ∀ (x3 x4 x5 : Nat), (x3
= if SA.k (MA.s a) = Int.toNat (0 : Int) then a.2.2 else a.2.2 + (0 : Nat)) → x4 = Int.toNat x1 - (0 : Nat) → x5 = a.2.4 - (0 : Nat) → (True ∧ True ∧ True ∧ True ∧ True ∧ True ∧
True ∧ True ∧ True ∧ True ∧ True ∧ True ∧ True ∧ True) ∧ ∃ (x6 : Unit), True ∧ (a.1 = a.1 ∧ (a.2.1 = Bool.false ∧ a.2.2 = x3 ∧ Min.min a.2.3 (8 : Nat) = x4 ∧ a.2.4 = x5) ∧ a.3.1 =
a.3.1 ∧ a.3.2 = a.3.2 ∧ a.3.3 = a.3.3 ∧ a.3.4 = a.3.4 ∧ a.3.5 = a.3.5 ∧ a.3.6 = a.3.6 ∧ a.3.7 = a.3.7 ∧ a.3.8 = a.3.8 ∧ True) ∧ True)) := by kernel_rfl
theorem vc_tom (a : MA) : G_tom a = ((a.2.1 = Bool.true → ((0 : Nat) ≤ (0 : Nat) → Bool.true = Bool.true ∧ Bool.true = Bool.true ∧ (0 : Nat) ≤ (0 : Nat) ∧ ∀ (x0 : Nat) (x1 : List Value), x0 = (0 : Nat) → x1 = lput []
(0 : Nat) [] → ((True ∧ True ∧ True) ∧ (W_G_tom_0 a = W_G_tom_0 a ∧ W_G_tom_0 a = W_G_tom_0 a ∧ True) ∧ True ∧ (True ∧ True) ∧ (W_G_tom_0 a = W_G_tom_0 a ∧ True) ∧ True ∧ (True ∧
True ∧ True) ∧ (W_G_tom_0 a = W_G_tom_0 a ∧ W_G_tom_0 a = W_G_tom_0 a ∧ True) ∧ True ∧ True ∧ True) ∧ ∃ (x2 : RW), (∀ (x3 : List Int), MH a x3 → LC (SN.mk Bool.false a.2.3 x2.1
x2.2) x3) ∧ (a.1 = a.1 ∧ (Bool.false = Bool.false ∧ (0 : Nat) = (0 : Nat) ∧ a.2.3 = x0 ∧ x2.1 = (0 : Nat)) ∧ a.3.1 = a.3.1 ∧ a.3.2 = a.3.2 ∧ a.3.3 = a.3.3 ∧ a.3.4 = a.3.4 ∧ a.3.5 =
a.3.5 ∧ a.3.6 = a.3.6 ∧ a.3.7 = a.3.7 ∧ a.3.8 = a.3.8 ∧ True) ∧ ((x2.1 = (0 : Nat) ∧ x1 = []) ∧ FlatL x2.2 ∧ x2.2 = x1) ∧ True) ∧ (¬(0 : Nat) ≤ (0 : Nat) → Few (0 : Nat) (4 : Nat)
∧ (0 : Nat) ≤ (0 : Nat) ∧ ∀ (x4 : Nat) (x5 : List Value), x4 = (0 : Nat) → x5 = lwin [] (0 : Nat) (0 : Nat) ++ [] → ((True ∧ True ∧ True) ∧ (W_G_tom_0 a = W_G_tom_0 a ∧ W_G_tom_0 a
= W_G_tom_0 a ∧ True) ∧ True ∧ (True ∧ True) ∧ (W_G_tom_0 a = W_G_tom_0 a ∧ True) ∧ True ∧ (True ∧ True ∧ True) ∧ (W_G_tom_0 a = W_G_tom_0 a ∧ W_G_tom_0 a = W_G_tom_0 a ∧ True) ∧
True ∧ True ∧ True) ∧ ∃ (x6 : RW), (∀ (x7 : List Int), MH a x7 → LC (SN.mk Bool.false a.2.3 x6.1 x6.2) x7) ∧ (a.1 = a.1 ∧ (Bool.false = Bool.false ∧ (0 : Nat) = (0 : Nat) ∧ a.2.3 =
x4 ∧ x6.1 = x4) ∧ a.3.1 = a.3.1 ∧ a.3.2 = a.3.2 ∧ a.3.3 = a.3.3 ∧ a.3.4 = a.3.4 ∧ a.3.5 = a.3.5 ∧ a.3.6 = a.3.6 ∧ a.3.7 = a.3.7 ∧ a.3.8 = a.3.8 ∧ True) ∧ (x6.1 = x4 ∧ FlatL x6.2 ∧
x6.2 = x5) ∧ True)) ∧ (a.2.1 = Bool.false → a.2.2 + a.2.3 * (1 : Nat) ≤ List.length a.2.5 ∧ ∀ (x8 : List Value), x8 = lwin a.2.5 a.2.2 (a.2.3 * (1 : Nat)) → ((0 : Nat) + a.2.3 ≤ (0
: Nat) → Bool.true = Bool.true ∧ lall oneK x8 = Bool.true ∧ (0 : Nat) + List.length x8 ≤ (0 : Nat) ∧ ∀ (x9 : Nat) (x10 : List Value), x9 = (0 : Nat) + a.2.3 → x10 = lput [] (0 :
Nat) x8 → ((True ∧ True ∧ True) ∧ (W_G_tom_0 a = W_G_tom_0 a ∧ W_G_tom_0 a = W_G_tom_0 a ∧ True) ∧ True ∧ (True ∧ True) ∧ (W_G_tom_0 a = W_G_tom_0 a ∧ True) ∧ True ∧ (True ∧ True ∧
True) ∧ (W_G_tom_0 a = W_G_tom_0 a ∧ W_G_tom_0 a = W_G_tom_0 a ∧ True) ∧ True ∧ True ∧ True) ∧ ∃ (x11 : RW), (∀ (x12 : List Int), MH a x12 → LC (SN.mk Bool.false a.2.3 x11.1 x11.2)
x12) ∧ (a.1 = a.1 ∧ (Bool.false = Bool.false ∧ (0 : Nat) = (0 : Nat) ∧ a.2.3 = x9 ∧ x11.1 = (0 : Nat)) ∧ a.3.1 = a.3.1 ∧ a.3.2 = a.3.2 ∧ a.3.3 = a.3.3 ∧ a.3.4 = a.3.4 ∧ a.3.5 =
a.3.5 ∧ a.3.6 = a.3.6 ∧ a.3.7 = a.3.7 ∧ a.3.8 = a.3.8 ∧ True) ∧ ((x11.1 = (0 : Nat) ∧ x10 = []) ∧ FlatL x11.2 ∧ x11.2 = x10) ∧ True) ∧ (¬(0 : Nat) + a.2.3 ≤ (0 : Nat) → Few ((0 :
Nat) + a.2.3) (4 : Nat) ∧ (0 : Nat) ≤ (0 : Nat) ∧ ∀ (x13 : Nat) (x14 : List Value), x13 = (0 : Nat) + a.2.3 → x14 = lwin [] (0 : Nat) (0 : Nat) ++ x8 → ((True ∧ True ∧ True) ∧
(W_G_tom_0 a = W_G_tom_0 a ∧ W_G_tom_0 a = W_G_tom_0 a ∧ True) ∧ True ∧ (True ∧ True) ∧ (W_G_tom_0 a = W_G_tom_0 a ∧ True) ∧ True ∧ (True ∧ True ∧ True) ∧ (W_G_tom_0 a = W_G_tom_0
a ∧ W_G_tom_0 a = W_G_tom_0 a ∧ True) ∧ True ∧ True ∧ True) ∧ ∃ (x15 : RW), (∀ (x16 : List Int), MH a x16 → LC (SN.mk Bool.false a.2.3 x15.1 x15.2) x16) ∧ (a.1 = a.1 ∧ (Bool.false
= Bool.false ∧ (0 : Nat) = (0 : Nat) ∧ a.2.3 = x13 ∧ x15.1 = x13) ∧ a.3.1 = a.3.1 ∧ a.3.2 = a.3.2 ∧ a.3.3 = a.3.3 ∧ a.3.4 = a.3.4 ∧ a.3.5 = a.3.5 ∧ a.3.6 = a.3.6 ∧ a.3.7 = a.3.7 ∧
a.3.8 = a.3.8 ∧ True) ∧ (x15.1 = x13 ∧ FlatL x15.2 ∧ x15.2 = x14) ∧ True))) := by kernel_rfl
theorem vc_moves (a : M2) : G_moves a = ((True ∧ ∃ (x0 : List Int), MH (MA.mk a.1.1 (SA.mk a.1.2.1 a.1.2.2 a.1.2.3 a.1.2.4 a.1.2.5) (D8.mk a.1.3.1 a.1.3.2 a.1.3.3 a.1.3.4 a.1.3.5 a.1.3.6 a.1.3.7 a.1.3.8)) x0) ∧ (((a.1.1 =
a.1.1 ∧ (a.1.2.1 = a.1.2.1 ∧ a.1.2.2 = a.1.2.2 ∧ a.1.2.3 = a.1.2.3 ∧ a.1.2.4 = a.1.2.4) ∧ a.1.3.1 = a.1.3.1 ∧ a.1.3.2 = a.1.3.2 ∧ a.1.3.3 = a.1.3.3 ∧ a.1.3.4 = a.1.3.4 ∧ a.1.3.5 =
a.1.3.5 ∧ a.1.3.6 = a.1.3.6 ∧ a.1.3.7 = a.1.3.7 ∧ a.1.3.8 = a.1.3.8 ∧ True) ∧ True) ∧ (True ∧ FlatL a.1.2.5 ∧ a.1.2.5 = a.1.2.5) ∧ True) ∧ (∀ (x1 : Unit), True → (True ∧ (∃ (x2 :
List Int), MH (MA.mk a.1.1 (SA.mk a.1.2.1 a.1.2.2 (Min.min a.1.2.3 (8 : Nat)) a.1.2.4 a.1.2.5) (D8.mk a.1.3.1 a.1.3.2 a.1.3.3 a.1.3.4 a.1.3.5 a.1.3.6 a.1.3.7 a.1.3.8)) x2) ∧
Min.min a.1.2.3 (8 : Nat) ≤ (100 : Nat)) ∧ (((a.1.1 = a.1.1 ∧ (a.1.2.1 = a.1.2.1 ∧ a.1.2.2 = a.1.2.2 ∧ Min.min a.1.2.3 (8 : Nat) = Min.min a.1.2.3 (8 : Nat) ∧ a.1.2.4 = a.1.2.4) ∧
a.1.3.1 = a.1.3.1 ∧ a.1.3.2 = a.1.3.2 ∧ a.1.3.3 = a.1.3.3 ∧ a.1.3.4 = a.1.3.4 ∧ a.1.3.5 = a.1.3.5 ∧ a.1.3.6 = a.1.3.6 ∧ a.1.3.7 = a.1.3.7 ∧ a.1.3.8 = a.1.3.8 ∧ True) ∧ True) ∧
(True ∧ FlatL a.1.2.5 ∧ a.1.2.5 = a.1.2.5) ∧ True) ∧ (∀ (x3 : RW), (∀ (x4 : List Int), MH (MA.mk a.1.1 (SA.mk a.1.2.1 a.1.2.2 (Min.min a.1.2.3 (8 : Nat)) a.1.2.4 a.1.2.5) (D8.mk
a.1.3.1 a.1.3.2 a.1.3.3 a.1.3.4 a.1.3.5 a.1.3.6 a.1.3.7 a.1.3.8)) x4 → LC (SN.mk Bool.false (Min.min a.1.2.3 (8 : Nat)) x3.1 x3.2) x4) → (True ∧ ∃ (x5 : List Int), MH (MA.mk a.2.1
(SA.mk a.2.2.1 a.2.2.2 a.2.2.3 a.2.2.4 a.2.2.5) (D8.mk a.2.3.1 a.2.3.2 a.2.3.3 a.2.3.4 a.2.3.5 a.2.3.6 a.2.3.7 a.2.3.8)) x5) ∧ (((a.2.1 = a.2.1 ∧ (a.2.2.1 = a.2.2.1 ∧ a.2.2.2 =
a.2.2.2 ∧ a.2.2.3 = a.2.2.3 ∧ a.2.2.4 = a.2.2.4) ∧ a.2.3.1 = a.2.3.1 ∧ a.2.3.2 = a.2.3.2 ∧ a.2.3.3 = a.2.3.3 ∧ a.2.3.4 = a.2.3.4 ∧ a.2.3.5 = a.2.3.5 ∧ a.2.3.6 = a.2.3.6 ∧ a.2.3.7 =
a.2.3.7 ∧ a.2.3.8 = a.2.3.8 ∧ True) ∧ True) ∧ (True ∧ FlatL a.2.2.5 ∧ a.2.2.5 = a.2.2.5) ∧ True) ∧ (∀ (x6 : Unit), True → (True ∧ (∃ (x7 : List Int), MH (MA.mk a.2.1 (SA.mk a.2.2.1
a.2.2.2 (Min.min a.2.2.3 (8 : Nat)) a.2.2.4 a.2.2.5) (D8.mk a.2.3.1 a.2.3.2 a.2.3.3 a.2.3.4 a.2.3.5 a.2.3.6 a.2.3.7 a.2.3.8)) x7) ∧ Min.min a.2.2.3 (8 : Nat) ≤ (100 : Nat)) ∧
(((a.2.1 = a.2.1 ∧ (a.2.2.1 = a.2.2.1 ∧ a.2.2.2 = a.2.2.2 ∧ Min.min a.2.2.3 (8 : Nat) = Min.min a.2.2.3 (8 : Nat) ∧ a.2.2.4 = a.2.2.4) ∧ a.2.3.1 = a.2.3.1 ∧ a.2.3.2 = a.2.3.2 ∧
a.2.3.3 = a.2.3.3 ∧ a.2.3.4 = a.2.3.4 ∧ a.2.3.5 = a.2.3.5 ∧ a.2.3.6 = a.2.3.6 ∧ a.2.3.7 = a.2.3.7 ∧ a.2.3.8 = a.2.3.8 ∧ True) ∧ True) ∧ (True ∧ FlatL a.2.2.5 ∧ a.2.2.5 = a.2.2.5) ∧
True) ∧ (∀ (x8 : RW), (∀ (x9 : List Int), MH (MA.mk a.2.1 (SA.mk a.2.2.1 a.2.2.2 (Min.min a.2.2.3 (8 : Nat)) a.2.2.4 a.2.2.5) (D8.mk a.2.3.1 a.2.3.2 a.2.3.3 a.2.3.4 a.2.3.5 a.2.3.6
a.2.3.7 a.2.3.8)) x9 → LC (SN.mk Bool.false (Min.min a.2.2.3 (8 : Nat)) x8.1 x8.2) x9) → (True ∧ True ∧ True ∧ (W_G_moves_0 a = W_G_moves_0 a ∧ W_G_moves_0 a = W_G_moves_0 a ∧
True) ∧ True ∧ True ∧ True ∧ True ∧ True) ∧ (True ∧ (∃ (x10 : List Int), MH (MA.mk a.1.1 (SA.mk Bool.false (0 : Nat) (Min.min a.1.2.3 (8 : Nat)) x3.1 x3.2) (D8.mk a.1.3.1 a.1.3.2
a.1.3.3 a.1.3.4 a.1.3.5 a.1.3.6 a.1.3.7 a.1.3.8)) x10) ∧ Min.min a.1.2.3 (8 : Nat) ≤ (100 : Nat)) ∧ (((a.1.1 = a.1.1 ∧ (Bool.false = Bool.false ∧ nat_lit 0 = (0 : Nat) ∧ Min.min
a.1.2.3 (8 : Nat) = Min.min a.1.2.3 (8 : Nat) ∧ x3.1 = x3.1) ∧ a.1.3.1 = a.1.3.1 ∧ a.1.3.2 = a.1.3.2 ∧ a.1.3.3 = a.1.3.3 ∧ a.1.3.4 = a.1.3.4 ∧ a.1.3.5 = a.1.3.5 ∧ a.1.3.6 = a.1.3.6
∧ a.1.3.7 = a.1.3.7 ∧ a.1.3.8 = a.1.3.8 ∧ True) ∧ True) ∧ (True ∧ FlatL x3.2 ∧ x3.2 = x3.2) ∧ True) ∧ (∀ (x11 : OW), (x11.2 ≤ (3000 : Nat) ∧ ∀ (x12 : List Int), MH (MA.mk a.1.1
(SA.mk Bool.false (0 : Nat) (Min.min a.1.2.3 (8 : Nat)) x3.1 x3.2) (D8.mk a.1.3.1 a.1.3.2 a.1.3.3 a.1.3.4 a.1.3.5 a.1.3.6 a.1.3.7 a.1.3.8)) x12 → OwB x11 (encM a.1.1 x12 (D8.mk
a.1.3.1 a.1.3.2 a.1.3.3 a.1.3.4 a.1.3.5 a.1.3.6 a.1.3.7 a.1.3.8))) → (True ∧ (∃ (x13 : List Int), MH (MA.mk a.2.1 (SA.mk Bool.false (0 : Nat) (Min.min a.2.2.3 (8 : Nat)) x8.1 x8.2)
(D8.mk a.2.3.1 a.2.3.2 a.2.3.3 a.2.3.4 a.2.3.5 a.2.3.6 a.2.3.7 a.2.3.8)) x13) ∧ Min.min a.2.2.3 (8 : Nat) ≤ (100 : Nat)) ∧ (((a.2.1 = a.2.1 ∧ (Bool.false = Bool.false ∧ nat_lit 0 =
(0 : Nat) ∧ Min.min a.2.2.3 (8 : Nat) = Min.min a.2.2.3 (8 : Nat) ∧ x8.1 = x8.1) ∧ a.2.3.1 = a.2.3.1 ∧ a.2.3.2 = a.2.3.2 ∧ a.2.3.3 = a.2.3.3 ∧ a.2.3.4 = a.2.3.4 ∧ a.2.3.5 = a.2.3.5
∧ a.2.3.6 = a.2.3.6 ∧ a.2.3.7 = a.2.3.7 ∧ a.2.3.8 = a.2.3.8 ∧ True) ∧ True) ∧ (True ∧ FlatL x8.2 ∧ x8.2 = x8.2) ∧ True) ∧ (∀ (x14 : OW), (x14.2 ≤ (3000 : Nat) ∧ ∀ (x15 : List Int),
MH (MA.mk a.2.1 (SA.mk Bool.false (0 : Nat) (Min.min a.2.2.3 (8 : Nat)) x8.1 x8.2) (D8.mk a.2.3.1 a.2.3.2 a.2.3.3 a.2.3.4 a.2.3.5 a.2.3.6 a.2.3.7 a.2.3.8)) x15 → OwB x14 (encM
a.2.1 x15 (D8.mk a.2.3.1 a.2.3.2 a.2.3.3 a.2.3.4 a.2.3.5 a.2.3.6 a.2.3.7 a.2.3.8))) → (True ∧ True ∧ (W_G_moves_1 a x8 = W_G_moves_1 a x8 ∧ True) ∧ True ∧ True ∧ True ∧ True) ∧
(True ∧ ∃ (x16 : List Int), MH (MA.mk a.1.1 (SA.mk Bool.false (0 : Nat) (Min.min a.1.2.3 (8 : Nat)) x3.1 x3.2) (D8.mk a.1.3.1 a.1.3.2 a.1.3.3 a.1.3.4 a.1.3.5 a.1.3.6 a.1.3.7
a.1.3.8)) x16) ∧ (((a.1.1 = a.1.1 ∧ (Bool.false = Bool.false ∧ nat_lit 0 = (0 : Nat) ∧ Min.min a.1.2.3 (8 : Nat) = Min.min a.1.2.3 (8 : Nat) ∧ x3.1 = x3.1) ∧ a.1.3.1 = a.1.3.1 ∧
a.1.3.2 = a.1.3.2 ∧ a.1.3.3 = a.1.3.3 ∧ a.1.3.4 = a.1.3.4 ∧ a.1.3.5 = a.1.3.5 ∧ a.1.3.6 = a.1.3.6 ∧ a.1.3.7 = a.1.3.7 ∧ a.1.3.8 = a.1.3.8 ∧ True) ∧ True) ∧ (True ∧ FlatL x3.2 ∧
x3.2 = x3.2) ∧ True) ∧ (∀ (x17 : Unit), True → (True ∧ (∃ (x18 : List Int), MH (MA.mk a.1.1 (SA.mk Bool.false (nat_lit 0) (Min.min (Min.min a.1.2.3 (8 : Nat)) (8 : Nat)) x3.1 x3.2)
(D8.mk a.1.3.1 a.1.3.2 a.1.3.3 a.1.3.4 a.1.3.5 a.1.3.6 a.1.3.7 a.1.3.8)) x18) ∧ Min.min (Min.min a.1.2.3 (8 : Nat)) (8 : Nat) ≤ (100 : Nat)) ∧ (((a.1.1 = a.1.1 ∧ (Bool.false =
Bool.false ∧ nat_lit 0 = nat_lit 0 ∧ Min.min (Min.min a.1.2.3 (8 : Nat)) (8 : Nat) = Min.min (Min.min a.1.2.3 (8 : Nat)) (8 : Nat) ∧ x3.1 = x3.1) ∧ a.1.3.1 = a.1.3.1 ∧ a.1.3.2 =
a.1.3.2 ∧ a.1.3.3 = a.1.3.3 ∧ a.1.3.4 = a.1.3.4 ∧ a.1.3.5 = a.1.3.5 ∧ a.1.3.6 = a.1.3.6 ∧ a.1.3.7 = a.1.3.7 ∧ a.1.3.8 = a.1.3.8 ∧ True) ∧ True) ∧ (True ∧ FlatL x3.2 ∧ x3.2 = x3.2)
∧ True) ∧ (∀ (x19 : RW), ((List.length x19.2 ≤ x19.1 ∧ List.length x19.2 ≤ (3000 : Nat)) ∧ ∀ (x20 : List Int), MH (MA.mk a.1.1 (SA.mk Bool.false (nat_lit 0) (Min.min (Min.min
a.1.2.3 (8 : Nat)) (8 : Nat)) x3.1 x3.2) (D8.mk a.1.3.1 a.1.3.2 a.1.3.3 a.1.3.4 a.1.3.5 a.1.3.6 a.1.3.7 a.1.3.8)) x20 → HE IntKind.u8 x19.2 (encM a.1.1 x20 (D8.mk a.1.3.1 a.1.3.2
a.1.3.3 a.1.3.4 a.1.3.5 a.1.3.6 a.1.3.7 a.1.3.8))) → (True ∧ (∃ (x21 : List Int), ∃ (x22 : List Int), Sli (Value.int IntKind.u8) (1 : Nat) Bool.false (nat_lit 0) x11.1 x11.2 x11.3
x21 ∧ Sli (Value.int IntKind.u8) (1 : Nat) Bool.false (nat_lit 0) (List.length x19.2) x19.1 x19.2 x22) ∧ x11.1 ≤ (1000000 : Nat) ∧ List.length x19.2 ≤ (1000000 : Nat)) ∧
(((Bool.false = Bool.false ∧ nat_lit 0 = (0 : Nat) ∧ x11.1 = x11.1 ∧ x11.2 = x11.2) ∧ (Bool.false = Bool.false ∧ nat_lit 0 = (0 : Nat) ∧ List.length x19.2 = List.length x19.2 ∧
x19.1 = x19.1) ∧ True) ∧ (True ∧ FlatL x11.3 ∧ x11.3 = x11.3) ∧ (True ∧ FlatL x19.2 ∧ x19.2 = x19.2) ∧ True) ∧ (∀ (x23 : BL), (∀ (x24 x25 : List Int), Sli (Value.int IntKind.u8) (1
: Nat) Bool.false (nat_lit 0) x11.1 x11.2 x11.3 x24 → Sli (Value.int IntKind.u8) (1 : Nat) Bool.false (nat_lit 0) (List.length x19.2) x19.1 x19.2 x25 → (x23.1 = Bool.true ↔ x24 =
x25)) → (x23.1 = Bool.true → (True ∧ (∃ (x26 : List Int), ∃ (x27 : List Int), MH (MA.mk a.1.1 (SA.mk Bool.false (0 : Nat) (Min.min a.1.2.3 (8 : Nat)) x3.1 x3.2) (D8.mk a.1.3.1
a.1.3.2 a.1.3.3 a.1.3.4 a.1.3.5 a.1.3.6 a.1.3.7 a.1.3.8)) x26 ∧ MH (MA.mk a.2.1 (SA.mk Bool.false (0 : Nat) (Min.min a.2.2.3 (8 : Nat)) x8.1 x8.2) (D8.mk a.2.3.1 a.2.3.2 a.2.3.3
a.2.3.4 a.2.3.5 a.2.3.6 a.2.3.7 a.2.3.8)) x27) ∧ Min.min a.1.2.3 (8 : Nat) ≤ (100 : Nat) ∧ Min.min a.2.2.3 (8 : Nat) ≤ (100 : Nat)) ∧ (((a.1.1 = a.1.1 ∧ (Bool.false = Bool.false ∧
nat_lit 0 = (0 : Nat) ∧ Min.min a.1.2.3 (8 : Nat) = Min.min a.1.2.3 (8 : Nat) ∧ x3.1 = x3.1) ∧ a.1.3.1 = a.1.3.1 ∧ a.1.3.2 = a.1.3.2 ∧ a.1.3.3 = a.1.3.3 ∧ a.1.3.4 = a.1.3.4 ∧
a.1.3.5 = a.1.3.5 ∧ a.1.3.6 = a.1.3.6 ∧ a.1.3.7 = a.1.3.7 ∧ a.1.3.8 = a.1.3.8 ∧ True) ∧ (a.2.1 = a.2.1 ∧ (Bool.false = Bool.false ∧ nat_lit 0 = (0 : Nat) ∧ Min.min a.2.2.3 (8 :
Nat) = Min.min a.2.2.3 (8 : Nat) ∧ x8.1 = x8.1) ∧ a.2.3.1 = a.2.3.1 ∧ a.2.3.2 = a.2.3.2 ∧ a.2.3.3 = a.2.3.3 ∧ a.2.3.4 = a.2.3.4 ∧ a.2.3.5 = a.2.3.5 ∧ a.2.3.6 = a.2.3.6 ∧ a.2.3.7 =
a.2.3.7 ∧ a.2.3.8 = a.2.3.8 ∧ True) ∧ True) ∧ (True ∧ FlatL x3.2 ∧ x3.2 = x3.2) ∧ (True ∧ FlatL x8.2 ∧ x8.2 = x8.2) ∧ True) ∧ (∀ (x28 : BL), (∀ (x29 x30 : List Int), MH (MA.mk
a.1.1 (SA.mk Bool.false (0 : Nat) (Min.min a.1.2.3 (8 : Nat)) x3.1 x3.2) (D8.mk a.1.3.1 a.1.3.2 a.1.3.3 a.1.3.4 a.1.3.5 a.1.3.6 a.1.3.7 a.1.3.8)) x29 → MH (MA.mk a.2.1 (SA.mk
Bool.false (0 : Nat) (Min.min a.2.2.3 (8 : Nat)) x8.1 x8.2) (D8.mk a.2.3.1 a.2.3.2 a.2.3.3 a.2.3.4 a.2.3.5 a.2.3.6 a.2.3.7 a.2.3.8)) x30 → (x28.1 = Bool.true ↔ encM a.1.1 x29
(D8.mk a.1.3.1 a.1.3.2 a.1.3.3 a.1.3.4 a.1.3.5 a.1.3.6 a.1.3.7 a.1.3.8) = encM a.2.1 x30 (D8.mk a.2.3.1 a.2.3.2 a.2.3.3 a.2.3.4 a.2.3.5 a.2.3.6 a.2.3.7 a.2.3.8))) → (True ∧ (∃ (x31
: List Int), ∃ (x32 : List Int), Sli (Value.int IntKind.u8) (1 : Nat) Bool.false (nat_lit 0) x11.1 x11.2 x11.3 x31 ∧ Sli (Value.int IntKind.u8) (1 : Nat) Bool.false (nat_lit 0)
x14.1 x14.2 x14.3 x32) ∧ x11.1 ≤ (1000000 : Nat) ∧ x14.1 ≤ (1000000 : Nat)) ∧ (((Bool.false = Bool.false ∧ nat_lit 0 = (0 : Nat) ∧ x11.1 = x11.1 ∧ x11.2 = x11.2) ∧ (Bool.false =
Bool.false ∧ nat_lit 0 = (0 : Nat) ∧ x14.1 = x14.1 ∧ x14.2 = x14.2) ∧ True) ∧ (True ∧ FlatL x11.3 ∧ x11.3 = x11.3) ∧ (True ∧ FlatL x14.3 ∧ x14.3 = x14.3) ∧ True) ∧ (∀ (x33 : BL),
(∀ (x34 x35 : List Int), Sli (Value.int IntKind.u8) (1 : Nat) Bool.false (nat_lit 0) x11.1 x11.2 x11.3 x34 → Sli (Value.int IntKind.u8) (1 : Nat) Bool.false (nat_lit 0) x14.1 x14.2
x14.3 x35 → (x33.1 = Bool.true ↔ x34 = x35)) → (x28.1 ≠ x33.1 → ∃ (x36 : Unit), True ∧ Bool.true = Bool.false ∧ True) ∧ (¬x28.1 ≠ x33.1 → (True ∧ (∃ (x37 : List Int), Sli
(Value.int IntKind.u8) (1 : Nat) Bool.false (nat_lit 0) x11.1 x11.2 x11.3 x37 ∧ Byts8 x37) ∧ x11.1 ≤ (100000 : Nat)) ∧ (((Bool.false = Bool.false ∧ nat_lit 0 = (0 : Nat) ∧ x11.1 =
x11.1 ∧ x11.2 = x11.2) ∧ True) ∧ (True ∧ FlatL x11.3 ∧ x11.3 = x11.3) ∧ True) ∧ (∀ (x38 : MR), (∀ (x39 : List Int), Sli (Value.int IntKind.u8) (1 : Nat) Bool.false (nat_lit 0)
x11.1 x11.2 x11.3 x39 → ∃ (x40 : List Int), LC x38.2 x40 ∧ decM x39 = DM.mk (0 : Int) x38.1 x40 x38.3) → (a.1.1 = Bool.true → (True ∧ True) ∧ (True ∧ (True ∧ FlatL cells0 ∧ cells0
= cells0) ∧ (True ∧ FlatL cells1 ∧ cells1 = cells1) ∧ (True ∧ FlatL cells2 ∧ cells2 = cells2) ∧ (True ∧ FlatL cells4 ∧ cells4 = cells4) ∧ (True ∧ FlatL cells5 ∧ cells5 = cells5) ∧
(True ∧ FlatL cells6 ∧ cells6 = cells6) ∧ (True ∧ FlatL cells8 ∧ cells8 = cells8) ∧ (True ∧ FlatL cells9 ∧ cells9 = cells9) ∧ (True ∧ FlatL cells10 ∧ cells10 = cells10) ∧ True) ∧
(∀ (x41 : Unit), True → (True ∧ (∃ (x42 : List Int), ∃ (x43 : List Int), MH (MA.mk x38.1 (SA.mk x38.2.1 (0 : Nat) x38.2.2 x38.2.3 x38.2.4) (D8.mk x38.3.1 x38.3.2 x38.3.3 x38.3.4
x38.3.5 x38.3.6 x38.3.7 x38.3.8)) x42 ∧ MH (MA.mk a.1.1 (SA.mk Bool.false (0 : Nat) (Min.min a.1.2.3 (8 : Nat)) x3.1 x3.2) (D8.mk a.1.3.1 a.1.3.2 a.1.3.3 a.1.3.4 a.1.3.5 a.1.3.6
a.1.3.7 a.1.3.8)) x43) ∧ x38.2.2 ≤ (100 : Nat) ∧ Min.min a.1.2.3 (8 : Nat) ≤ (100 : Nat)) ∧ (((x38.1 = x38.1 ∧ (x38.2.1 = x38.2.1 ∧ nat_lit 0 = (0 : Nat) ∧ x38.2.2 = x38.2.2 ∧
x38.2.3 = x38.2.3) ∧ x38.3.1 = x38.3.1 ∧ x38.3.2 = x38.3.2 ∧ x38.3.3 = x38.3.3 ∧ x38.3.4 = x38.3.4 ∧ x38.3.5 = x38.3.5 ∧ x38.3.6 = x38.3.6 ∧ x38.3.7 = x38.3.7 ∧ x38.3.8 = x38.3.8 ∧
True) ∧ (a.1.1 = a.1.1 ∧ (Bool.false = Bool.false ∧ nat_lit 0 = (0 : Nat) ∧ Min.min a.1.2.3 (8 : Nat) = Min.min a.1.2.3 (8 : Nat) ∧ x3.1 = x3.1) ∧ a.1.3.1 = a.1.3.1 ∧ a.1.3.2 =
a.1.3.2 ∧ a.1.3.3 = a.1.3.3 ∧ a.1.3.4 = a.1.3.4 ∧ a.1.3.5 = a.1.3.5 ∧ a.1.3.6 = a.1.3.6 ∧ a.1.3.7 = a.1.3.7 ∧ a.1.3.8 = a.1.3.8 ∧ True) ∧ True) ∧ (True ∧ FlatL x38.2.4 ∧ x38.2.4 =
x38.2.4) ∧ (True ∧ FlatL x3.2 ∧ x3.2 = x3.2) ∧ True) ∧ (∀ (x44 : BL), (∀ (x45 x46 : List Int), MH (MA.mk x38.1 (SA.mk x38.2.1 (0 : Nat) x38.2.2 x38.2.3 x38.2.4) (D8.mk x38.3.1
x38.3.2 x38.3.3 x38.3.4 x38.3.5 x38.3.6 x38.3.7 x38.3.8)) x45 → MH (MA.mk a.1.1 (SA.mk Bool.false (0 : Nat) (Min.min a.1.2.3 (8 : Nat)) x3.1 x3.2) (D8.mk a.1.3.1 a.1.3.2 a.1.3.3
a.1.3.4 a.1.3.5 a.1.3.6 a.1.3.7 a.1.3.8)) x46 → (x44.1 = Bool.true ↔ encM x38.1 x45 (D8.mk x38.3.1 x38.3.2 x38.3.3 x38.3.4 x38.3.5 x38.3.6 x38.3.7 x38.3.8) = encM a.1.1 x46 (D8.mk
a.1.3.1 a.1.3.2 a.1.3.3 a.1.3.4 a.1.3.5 a.1.3.6 a.1.3.7 a.1.3.8))) → ∃ (x47 : Unit), True ∧ Bool.true = x44.1 ∧ True) ∧ True) ∧ True) ∧ (a.1.1 = Bool.false → ∀ (x48 : Int), x48 =
(↑(Min.min a.1.2.3 (8 : Nat)) : Int) → ((4 : Int) < x48 → (True ∧ True) ∧ (True ∧ (True ∧ FlatL cells0 ∧ cells0 = cells0) ∧ (True ∧ FlatL cells1 ∧ cells1 = cells1) ∧ (True ∧ FlatL
cells2 ∧ cells2 = cells2) ∧ (True ∧ FlatL cells4 ∧ cells4 = cells4) ∧ (True ∧ FlatL cells5 ∧ cells5 = cells5) ∧ (True ∧ FlatL cells6 ∧ cells6 = cells6) ∧ (True ∧ FlatL cells8 ∧
cells8 = cells8) ∧ (True ∧ FlatL cells9 ∧ cells9 = cells9) ∧ (True ∧ FlatL cells10 ∧ cells10 = cells10) ∧ True) ∧ (∀ (x49 : Unit), True → ∃ (x50 : Unit), True ∧ Bool.true =
Bool.false ∧ True) ∧ True) ∧ (¬(4 : Int) < x48 → (True ∧ True) ∧ (True ∧ (True ∧ FlatL cells0 ∧ cells0 = cells0) ∧ (True ∧ FlatL cells1 ∧ cells1 = cells1) ∧ (True ∧ FlatL cells2 ∧
cells2 = cells2) ∧ (True ∧ FlatL cells4 ∧ cells4 = cells4) ∧ (True ∧ FlatL cells5 ∧ cells5 = cells5) ∧ (True ∧ FlatL cells6 ∧ cells6 = cells6) ∧ (True ∧ FlatL cells8 ∧ cells8 =
cells8) ∧ (True ∧ FlatL cells9 ∧ cells9 = cells9) ∧ (True ∧ FlatL cells10 ∧ cells10 = cells10) ∧ True) ∧ (∀ (x51 : Unit), True → (True ∧ (∃ (x52 : List Int), ∃ (x53 : List Int), MH
(MA.mk x38.1 (SA.mk x38.2.1 (0 : Nat) x38.2.2 x38.2.3 x38.2.4) (D8.mk x38.3.1 x38.3.2 x38.3.3 x38.3.4 x38.3.5 x38.3.6 x38.3.7 x38.3.8)) x52 ∧ MH (MA.mk a.1.1 (SA.mk Bool.false (0 :
Nat) (Min.min a.1.2.3 (8 : Nat)) x3.1 x3.2) (D8.mk a.1.3.1 a.1.3.2 a.1.3.3 a.1.3.4 a.1.3.5 a.1.3.6 a.1.3.7 a.1.3.8)) x53) ∧ x38.2.2 ≤ (100 : Nat) ∧ Min.min a.1.2.3 (8 : Nat) ≤ (100
: Nat)) ∧ (((x38.1 = x38.1 ∧ (x38.2.1 = x38.2.1 ∧ nat_lit 0 = (0 : Nat) ∧ x38.2.2 = x38.2.2 ∧ x38.2.3 = x38.2.3) ∧ x38.3.1 = x38.3.1 ∧ x38.3.2 = x38.3.2 ∧ x38.3.3 = x38.3.3 ∧
x38.3.4 = x38.3.4 ∧ x38.3.5 = x38.3.5 ∧ x38.3.6 = x38.3.6 ∧ x38.3.7 = x38.3.7 ∧ x38.3.8 = x38.3.8 ∧ True) ∧ (a.1.1 = a.1.1 ∧ (Bool.false = Bool.false ∧ nat_lit 0 = (0 : Nat) ∧
Min.min a.1.2.3 (8 : Nat) = Min.min a.1.2.3 (8 : Nat) ∧ x3.1 = x3.1) ∧ a.1.3.1 = a.1.3.1 ∧ a.1.3.2 = a.1.3.2 ∧ a.1.3.3 = a.1.3.3 ∧ a.1.3.4 = a.1.3.4 ∧ a.1.3.5 = a.1.3.5 ∧ a.1.3.6 =
a.1.3.6 ∧ a.1.3.7 = a.1.3.7 ∧ a.1.3.8 = a.1.3.8 ∧ True) ∧ True) ∧ (True ∧ FlatL x38.2.4 ∧ x38.2.4 = x38.2.4) ∧ (True ∧ FlatL x3.2 ∧ x3.2 = x3.2) ∧ True) ∧ (∀ (x54 : BL), (∀ (x55
x56 : List Int), MH (MA.mk x38.1 (SA.mk x38.2.1 (0 : Nat) x38.2.2 x38.2.3 x38.2.4) (D8.mk x38.3.1 x38.3.2 x38.3.3 x38.3.4 x38.3.5 x38.3.6 x38.3.7 x38.3.8)) x55 → MH (MA.mk a.1.1
(SA.mk Bool.false (0 : Nat) (Min.min a.1.2.3 (8 : Nat)) x3.1 x3.2) (D8.mk a.1.3.1 a.1.3.2 a.1.3.3 a.1.3.4 a.1.3.5 a.1.3.6 a.1.3.7 a.1.3.8)) x56 → (x54.1 = Bool.true ↔ encM x38.1
x55 (D8.mk x38.3.1 x38.3.2 x38.3.3 x38.3.4 x38.3.5 x38.3.6 x38.3.7 x38.3.8) = encM a.1.1 x56 (D8.mk a.1.3.1 a.1.3.2 a.1.3.3 a.1.3.4 a.1.3.5 a.1.3.6 a.1.3.7 a.1.3.8))) → ∃ (x57 :
Unit), True ∧ Bool.true = x54.1 ∧ True) ∧ True) ∧ True))) ∧ (∀ (x58 : EE), (x58.1 ≠ (0 : Int) ∧ ∀ (x59 : List Int), Sli (Value.int IntKind.u8) (1 : Nat) Bool.false (nat_lit 0)
x11.1 x11.2 x11.3 x59 → (decM x59).1 = x58.1) → (a.1.1 = Bool.true → (True ∧ True) ∧ (True ∧ (True ∧ FlatL cells0 ∧ cells0 = cells0) ∧ (True ∧ FlatL cells1 ∧ cells1 = cells1) ∧
(True ∧ FlatL cells2 ∧ cells2 = cells2) ∧ (True ∧ FlatL cells4 ∧ cells4 = cells4) ∧ (True ∧ FlatL cells5 ∧ cells5 = cells5) ∧ (True ∧ FlatL cells6 ∧ cells6 = cells6) ∧ (True ∧
FlatL cells8 ∧ cells8 = cells8) ∧ (True ∧ FlatL cells9 ∧ cells9 = cells9) ∧ (True ∧ FlatL cells10 ∧ cells10 = cells10) ∧ True) ∧ (∀ (x60 : Unit), True → (x58.1 = (0 : Int) → (True
∧ (∃ (x61 : List Int), ∃ (x62 : List Int), MH (MA.mk Bool.false (SA.mk Bool.true (0 : Nat) (0 : Nat) (0 : Nat) []) (D8.mk (0 : Int) (0 : Int) (0 : Int) (0 : Int) (0 : Int) (0 :
Int) (0 : Int) (0 : Int))) x61 ∧ MH (MA.mk a.1.1 (SA.mk Bool.false (0 : Nat) (Min.min a.1.2.3 (8 : Nat)) x3.1 x3.2) (D8.mk a.1.3.1 a.1.3.2 a.1.3.3 a.1.3.4 a.1.3.5 a.1.3.6 a.1.3.7
a.1.3.8)) x62) ∧ nat_lit 0 ≤ (100 : Nat) ∧ Min.min a.1.2.3 (8 : Nat) ≤ (100 : Nat)) ∧ (((Bool.false = Bool.false ∧ (Bool.true = Bool.true ∧ nat_lit 0 = (0 : Nat) ∧ nat_lit 0 = (0 :
Nat)) ∧ Int.ofNat (0 : Nat) = (0 : Int) ∧ Int.ofNat (0 : Nat) = (0 : Int) ∧ Int.ofNat (0 : Nat) = (0 : Int) ∧ Int.ofNat (0 : Nat) = (0 : Int) ∧ Int.ofNat (0 : Nat) = (0 : Int) ∧
Int.ofNat (0 : Nat) = (0 : Int) ∧ Int.ofNat (0 : Nat) = (0 : Int) ∧ Int.ofNat (0 : Nat) = (0 : Int) ∧ True) ∧ (a.1.1 = a.1.1 ∧ (Bool.false = Bool.false ∧ nat_lit 0 = (0 : Nat) ∧
Min.min a.1.2.3 (8 : Nat) = Min.min a.1.2.3 (8 : Nat) ∧ x3.1 = x3.1) ∧ a.1.3.1 = a.1.3.1 ∧ a.1.3.2 = a.1.3.2 ∧ a.1.3.3 = a.1.3.3 ∧ a.1.3.4 = a.1.3.4 ∧ a.1.3.5 = a.1.3.5 ∧ a.1.3.6 =
a.1.3.6 ∧ a.1.3.7 = a.1.3.7 ∧ a.1.3.8 = a.1.3.8 ∧ True) ∧ True) ∧ (FlatL [] ∧ True) ∧ (True ∧ FlatL x3.2 ∧ x3.2 = x3.2) ∧ True) ∧ (∀ (x63 : BL), (∀ (x64 x65 : List Int), MH (MA.mk
Bool.false (SA.mk Bool.true (0 : Nat) (0 : Nat) (0 : Nat) []) (D8.mk (0 : Int) (0 : Int) (0 : Int) (0 : Int) (0 : Int) (0 : Int) (0 : Int) (0 : Int))) x64 → MH (MA.mk a.1.1 (SA.mk
Bool.false (0 : Nat) (Min.min a.1.2.3 (8 : Nat)) x3.1 x3.2) (D8.mk a.1.3.1 a.1.3.2 a.1.3.3 a.1.3.4 a.1.3.5 a.1.3.6 a.1.3.7 a.1.3.8)) x65 → (x63.1 = Bool.true ↔ encM Bool.false x64
(D8.mk (0 : Int) (0 : Int) (0 : Int) (0 : Int) (0 : Int) (0 : Int) (0 : Int) (0 : Int)) = encM a.1.1 x65 (D8.mk a.1.3.1 a.1.3.2 a.1.3.3 a.1.3.4 a.1.3.5 a.1.3.6 a.1.3.7 a.1.3.8))) →
∃ (x66 : Unit), True ∧ Bool.true = x63.1 ∧ True) ∧ True) ∧ (¬x58.1 = (0 : Int) → ∃ (x67 : Unit), True ∧ Bool.true = Bool.false ∧ True)) ∧ True) ∧ (a.1.1 = Bool.false → ∀ (x68 :
Int), x68 = (↑(Min.min a.1.2.3 (8 : Nat)) : Int) → ((4 : Int) < x68 → (True ∧ True) ∧ (True ∧ (True ∧ FlatL cells0 ∧ cells0 = cells0) ∧ (True ∧ FlatL cells1 ∧ cells1 = cells1) ∧
(True ∧ FlatL cells2 ∧ cells2 = cells2) ∧ (True ∧ FlatL cells4 ∧ cells4 = cells4) ∧ (True ∧ FlatL cells5 ∧ cells5 = cells5) ∧ (True ∧ FlatL cells6 ∧ cells6 = cells6) ∧ (True ∧
FlatL cells8 ∧ cells8 = cells8) ∧ (True ∧ FlatL cells9 ∧ cells9 = cells9) ∧ (True ∧ FlatL cells10 ∧ cells10 = cells10) ∧ True) ∧ (∀ (x69 : Unit), True → (x58.1 = (2 : Int) → ∃ (x70
: Unit), True ∧ Bool.true = Bool.true ∧ True) ∧ (¬x58.1 = (2 : Int) → ∃ (x71 : Unit), True ∧ Bool.true = Bool.false ∧ True)) ∧ True) ∧ (¬(4 : Int) < x68 → (True ∧ True) ∧ (True ∧
(True ∧ FlatL cells0 ∧ cells0 = cells0) ∧ (True ∧ FlatL cells1 ∧ cells1 = cells1) ∧ (True ∧ FlatL cells2 ∧ cells2 = cells2) ∧ (True ∧ FlatL cells4 ∧ cells4 = cells4) ∧ (True ∧
FlatL cells5 ∧ cells5 = cells5) ∧ (True ∧ FlatL cells6 ∧ cells6 = cells6) ∧ (True ∧ FlatL cells8 ∧ cells8 = cells8) ∧ (True ∧ FlatL cells9 ∧ cells9 = cells9) ∧ (True ∧ FlatL
cells10 ∧ cells10 = cells10) ∧ True) ∧ (∀ (x72 : Unit), True → (x58.1 = (0 : Int) → (True ∧ (∃ (x73 : List Int), ∃ (x74 : List Int), MH (MA.mk Bool.false (SA.mk Bool.true (0 : Nat)
(0 : Nat) (0 : Nat) []) (D8.mk (0 : Int) (0 : Int) (0 : Int) (0 : Int) (0 : Int) (0 : Int) (0 : Int) (0 : Int))) x73 ∧ MH (MA.mk a.1.1 (SA.mk Bool.false (0 : Nat) (Min.min a.1.2.3
(8 : Nat)) x3.1 x3.2) (D8.mk a.1.3.1 a.1.3.2 a.1.3.3 a.1.3.4 a.1.3.5 a.1.3.6 a.1.3.7 a.1.3.8)) x74) ∧ nat_lit 0 ≤ (100 : Nat) ∧ Min.min a.1.2.3 (8 : Nat) ≤ (100 : Nat)) ∧
(((Bool.false = Bool.false ∧ (Bool.true = Bool.true ∧ nat_lit 0 = (0 : Nat) ∧ nat_lit 0 = (0 : Nat)) ∧ Int.ofNat (0 : Nat) = (0 : Int) ∧ Int.ofNat (0 : Nat) = (0 : Int) ∧ Int.ofNat
(0 : Nat) = (0 : Int) ∧ Int.ofNat (0 : Nat) = (0 : Int) ∧ Int.ofNat (0 : Nat) = (0 : Int) ∧ Int.ofNat (0 : Nat) = (0 : Int) ∧ Int.ofNat (0 : Nat) = (0 : Int) ∧ Int.ofNat (0 : Nat)
= (0 : Int) ∧ True) ∧ (a.1.1 = a.1.1 ∧ (Bool.false = Bool.false ∧ nat_lit 0 = (0 : Nat) ∧ Min.min a.1.2.3 (8 : Nat) = Min.min a.1.2.3 (8 : Nat) ∧ x3.1 = x3.1) ∧ a.1.3.1 = a.1.3.1 ∧
a.1.3.2 = a.1.3.2 ∧ a.1.3.3 = a.1.3.3 ∧ a.1.3.4 = a.1.3.4 ∧ a.1.3.5 = a.1.3.5 ∧ a.1.3.6 = a.1.3.6 ∧ a.1.3.7 = a.1.3.7 ∧ a.1.3.8 = a.1.3.8 ∧ True) ∧ True) ∧ (FlatL [] ∧ True) ∧
(True ∧ FlatL x3.2 ∧ x3.2 = x3.2) ∧ True) ∧ (∀ (x75 : BL), (∀ (x76 x77 : List Int), MH (MA.mk Bool.false (SA.mk Bool.true (0 : Nat) (0 : Nat) (0 : Nat) []) (D8.mk (0 : Int) (0 :
Int) (0 : Int) (0 : Int) (0 : Int) (0 : Int) (0 : Int) (0 : Int))) x76 → MH (MA.mk a.1.1 (SA.mk Bool.false (0 : Nat) (Min.min a.1.2.3 (8 : Nat)) x3.1 x3.2) (D8.mk a.1.3.1 a.1.3.2
a.1.3.3 a.1.3.4 a.1.3.5 a.1.3.6 a.1.3.7 a.1.3.8)) x77 → (x75.1 = Bool.true ↔ encM Bool.false x76 (D8.mk (0 : Int) (0 : Int) (0 : Int) (0 : Int) (0 : Int) (0 : Int) (0 : Int) (0 :
Int)) = encM a.1.1 x77 (D8.mk a.1.3.1 a.1.3.2 a.1.3.3 a.1.3.4 a.1.3.5 a.1.3.6 a.1.3.7 a.1.3.8))) → ∃ (x78 : Unit), True ∧ Bool.true = x75.1 ∧ True) ∧ True) ∧ (¬x58.1 = (0 : Int) →
∃ (x79 : Unit), True ∧ Bool.true = Bool.false ∧ True)) ∧ True))) ∧ True)) ∧ True) ∧ True) ∧ (x23.1 = Bool.false → ∃ (x80 : Unit), True ∧ Bool.true = Bool.false ∧ True)) ∧ True) ∧
True) ∧ True) ∧ True) ∧ True) ∧ True) ∧ True) ∧ True) ∧ True) := by kernel_rfl
theorem flat_all {c : List Value} (h : c.all ftag = true) : FlatL c := fun v hv => List.all_eq_true.1 h v hv
theorem gl : FlatL cells0 ∧ FlatL cells1 ∧ FlatL cells2 ∧ FlatL cells4 ∧ FlatL cells5 ∧ FlatL cells6 ∧ FlatL cells8 ∧ FlatL cells9 ∧ FlatL cells10 := ⟨flat_all (by kernel_rfl), flat_all (by kernel_rfl), flat_all (by kernel_rfl), flat_all (by kernel_rfl), flat_all (by kernel_rfl), flat_all (by kernel_rfl), flat_all (by kernel_rfl), flat_all (by kernel_rfl), flat_all (by kernel_rfl)⟩
theorem g_ofm (a : MA) (xs : List Int) (h : MH a xs) : G_ofm a := by
  have n1 := h.sl.nil
  have k1 := h.sl.cap
  rw [vc_ofm]
  repeat' first
    | with_reducible apply And.intro
    | intro _
    | with_reducible refine Exists.intro () ?_
    | exact trivial
    | exact rfl
  all_goals
    (try have e1 := n1 (by assumption))
    first
      | assumption
      | omega
      | (subst_vars; simp; done)
theorem s_ofm : SpecOK Tryz.prog S_ofm.spec := fun a K hp hq => by
  obtain ⟨xs, h⟩ := hp
  exact specD_at (an := []) envOK cw0_ok (fun _ => g_ofm a xs h) K ⟨xs, h⟩ hq
theorem MH.uniq' {a : MA} {xs ys : List Int} (h : MH a xs) (g : MH a ys) : xs = ys := Sli.uniqI h.sl g.sl
theorem lwin_nil' : lwin [] 0 0 = [] := rfl
theorem g_tom (a : MA) (xs : List Int) (h : MH a xs) (hl : a.s.l ≤ 100) : G_tom a := by
  have n1 := h.sl.nil
  have k1 := h.sl.cap
  have hlen : xs.length = a.s.l := by have := h.sl.len; omega
  have fin : ∀ (k : Nat) (c : List Value), LC ⟨false, a.s.l, k, c⟩ xs → ∀ zs : List Int, MH a zs → LC ⟨false, a.s.l, k, c⟩ zs := fun k c hc zs hz => by rw [hz.uniq' h]; exact hc
  rw [vc_tom]
  refine ⟨fun hn => ⟨fun _ => ⟨rfl, rfl, Nat.le_refl _, fun n c hn' hc => ⟨?_, ⟨0, c⟩, ?_, ⟨rfl, ⟨rfl, rfl, by have := n1 hn; omega, rfl⟩, rfl, rfl, rfl, rfl, rfl, rfl, rfl, rfl, trivial⟩, ⟨⟨rfl, by rw [hc]; rfl⟩, by rw [hc]; exact flatL_nil, rfl⟩, trivial⟩⟩, fun h => absurd (Nat.le_refl 0) h⟩,
    fun hn => ⟨by have := h.sl.fit hn; omega, fun vs hvs => ⟨fun h0 => ?_, fun h0 => ?_⟩⟩⟩
  · repeat' first
      | with_reducible apply And.intro
      | exact trivial
      | exact rfl
      | assumption
  · have hx : xs = [] := List.eq_nil_of_length_eq_zero (by have := n1 hn; omega)
    refine fin _ _ ?_
    have := n1 hn
    rw [hc, hx, this.1]
    exact ⟨.nil, rfl, Nat.le_refl _, fun h => by cases h⟩
  · have hw : HW (Value.int .i32) vs xs := by rw [hvs]; exact h.sl.win hn
    have hv0 : vs = [] := List.eq_nil_of_length_eq_zero (by rw [hw.len]; omega)
    refine ⟨rfl, hw.oneK, by rw [hv0]; exact Nat.le_refl _, fun n c hn' hc => ⟨?_, ⟨0, c⟩, ?_, ⟨rfl, ⟨rfl, rfl, by omega, rfl⟩, rfl, rfl, rfl, rfl, rfl, rfl, rfl, rfl, trivial⟩, ⟨⟨rfl, by rw [hc, hv0]; rfl⟩, by rw [hc, hv0]; exact flatL_nil, rfl⟩, trivial⟩⟩
    · repeat' first
        | with_reducible apply And.intro
        | exact trivial
        | exact rfl
        | assumption
    · have hx : xs = [] := List.eq_nil_of_length_eq_zero (by omega)
      refine fin _ _ ?_
      rw [hc, hx, hv0, show a.s.l = 0 by omega]
      exact ⟨.nil, rfl, Nat.le_refl _, fun h => by cases h⟩
  · have hw : HW (Value.int .i32) vs xs := by rw [hvs]; exact h.sl.win hn
    have hcv : ∀ c : List Value, c = lwin [] 0 0 ++ vs → c = vs := fun c hc => hc
    refine ⟨by unfold Few; omega, Nat.le_refl _, fun n c hn' hc => ⟨?_, ⟨n, c⟩, ?_, ⟨rfl, ⟨rfl, rfl, by omega, rfl⟩, rfl, rfl, rfl, rfl, rfl, rfl, rfl, rfl, trivial⟩, ⟨rfl, by rw [hcv c hc]; exact hw.flat, rfl⟩, trivial⟩⟩
    · repeat' first
        | with_reducible apply And.intro
        | exact trivial
        | exact rfl
        | assumption
    · refine fin _ _ ?_
      rw [hcv c hc]
      exact ⟨hw, hlen.symm, by show a.s.l ≤ n; omega, fun h => by cases h⟩
theorem s_tom : SpecOK Tryz.prog S_tom.spec := fun a K hp hq => by
  obtain ⟨⟨xs, h⟩, hl⟩ := hp
  exact specD_at (an := []) envOK cw0_ok (fun _ => g_tom a xs h hl) K ⟨⟨xs, h⟩, hl⟩ hq
theorem Sli.cut {α : Type} {f : α → Value} {sz o l k m q : Nat} {n : Bool} {c : List Value} {xs : List α} (h : Sli f sz n o l k c xs) (hm : m = q * sz) : Sli f sz n o (min l q) k c (xs.take m) :=
  ⟨h.at_.take m, by
    have := h.len
    rw [List.length_take, hm, this]
    rw [Nat.min_comm (q * sz), Nat.mul_min_mul_right], fun hn => ⟨by have := (h.nil hn).1; omega, (h.nil hn).2⟩, fun hn => Nat.le_trans (Nat.add_le_add_left (Nat.mul_le_mul_right _ (Nat.min_le_left _ _)) _) (h.fit hn), Nat.le_trans (Nat.min_le_left _ _) h.cap, h.flat⟩
theorem MH.cut {a : MA} {xs : List Int} (h : MH a xs) : MH ⟨a.t, ⟨a.s.n, a.s.o, min a.s.l 8, a.s.k, a.s.c⟩, a.d⟩ (xs.take 8) := ⟨Sli.cut (q := 8) h.sl rfl, fun n hn => h.w n (List.mem_of_mem_take hn), h.d⟩
theorem LC.mh {t : Bool} {s : SN} {d : D8} {xs : List Int} (h : LC s xs) (hw : ∀ n ∈ xs, -2147483648 ≤ n ∧ n ≤ 2147483647) (hd : d.Ok) : MH ⟨t, ⟨s.n, 0, s.l, s.k, s.c⟩, d⟩ xs := ⟨h.sli, hw, hd⟩
/-- The laid variables, row by row. -/
theorem globs : mem globR 12 = ⟨putAll G0 .e, 12⟩ := by kernel_rfl
theorem known_of {hk : Caller → Caller} (hh : HookOK Tryz.prog hk) (hr : resIs (.bool true) (evCallH Tryz.prog E0 hk 300 17 [] ⟨putAll G0 .e, 12⟩) = true) : SpecOK Tryz.prog S_known.spec := fun a K _ hq => by
  cases hev : evCallH Tryz.prog E0 hk 300 17 [] ⟨putAll G0 .e, 12⟩ with
  | none => rw [hev] at hr; cases hr
  | some p =>
    obtain ⟨v1, B⟩ := p
    rw [hev] at hr
    obtain rfl := veq6_eq (show veq6 v1 (.bool true) = true from hr)
    have hsem : FnSem Tryz.prog 17 [] (mem globR 12) (.bool true) B := fun σ w args' hR ha => by
      rw [globs] at hR ⊢
      exact evCallH_ok envOK hh 300 _ [] _ _ B hev σ w args' hR ha
    exact ⟨.bool true, [], 12, hq.1 () trivial, fun _ _ _ _ h => (nomatch h), fnSem_seen rfl hsem (l := []) (cpb_iff.2 ⟨by kernel_rfl, rfl, trivial⟩)⟩
theorem s_known : SpecOK Tryz.prog S_known.spec := known_of hooksB known17_run
theorem d80_ok : d80.Ok := ⟨⟨by decide, by decide⟩, ⟨by decide, by decide⟩, ⟨by decide, by decide⟩, ⟨by decide, by decide⟩, ⟨by decide, by decide⟩, ⟨by decide, by decide⟩, ⟨by decide, by decide⟩, ⟨by decide, by decide⟩⟩
theorem g_moves (a : M2) (us vs : List Int) (hu : MH a.a us) (hv : MH a.b vs) : G_moves a := by
  have fu := hu.sl.flat
  have fv := hv.sl.flat
  obtain ⟨w0, w1, w2, w3, w4, w5, w6, w7, w8⟩ := gl
  have cu := hu.cut
  have cv := hv.cut
  have m1 : min a.a.s.l 8 ≤ 100 := by omega
  have m2 : min a.b.s.l 8 ≤ 100 := by omega
  have hxl : (us.take 8).length = min a.a.s.l 8 := by have := hu.sl.len; simp; omega
  rw [vc_moves]
  refine ⟨⟨trivial, us, hu⟩, ?_, fun _ _ => ?_, trivial⟩
  · repeat' first
      | with_reducible apply And.intro
      | exact trivial
      | exact rfl
      | assumption
  refine ⟨⟨trivial, ⟨_, cu⟩, m1⟩, ?_, fun p hp => ?_, trivial⟩
  · repeat' first
      | with_reducible apply And.intro
      | exact trivial
      | exact rfl
      | assumption
  have hp := hp _ cu
  have fp := hp.flat
  refine ⟨⟨trivial, vs, hv⟩, ?_, fun _ _ => ?_, trivial⟩
  · repeat' first
      | with_reducible apply And.intro
      | exact trivial
      | exact rfl
      | assumption
  refine ⟨⟨trivial, ⟨_, cv⟩, m2⟩, ?_, fun q hq => ?_, trivial⟩
  · repeat' first
      | with_reducible apply And.intro
      | exact trivial
      | exact rfl
      | assumption
  have hq := hq _ cv
  have fq := hq.flat
  generalize hxs : us.take 8 = xs at cu hp hxl
  generalize vs.take 8 = ys at cv hq
  have hm : MH ⟨a.a.t, ⟨false, 0, min a.a.s.l 8, p.k, p.c⟩, a.a.d⟩ xs := hp.mh cu.w hu.d
  have ho : MH ⟨a.b.t, ⟨false, 0, min a.b.s.l 8, q.k, q.c⟩, a.b.d⟩ ys := hq.mh cv.w hv.d
  have hm2 : MH ⟨a.a.t, ⟨false, 0, min (min a.a.s.l 8) 8, p.k, p.c⟩, a.a.d⟩ xs := by rw [show min (min a.a.s.l 8) 8 = min a.a.s.l 8 by omega]; exact hm
  refine ⟨?_, ⟨trivial, ⟨_, hm⟩, m1⟩, ?_, fun x hx => ?_, trivial⟩
  · repeat' first
      | with_reducible apply And.intro
      | exact trivial
      | exact rfl
      | assumption
  · repeat' first
      | with_reducible apply And.intro
      | exact trivial
      | exact rfl
      | assumption
  obtain ⟨x3, hx⟩ := hx
  have hx := hx _ hm
  refine ⟨⟨trivial, ⟨_, ho⟩, m2⟩, ?_, fun y hy => ?_, trivial⟩
  · repeat' first
      | with_reducible apply And.intro
      | exact trivial
      | exact rfl
      | assumption
  obtain ⟨y3, hy⟩ := hy
  have hy := hy _ ho
  have fx := hx.flat
  have fy := hy.flat
  have lx := hx.le
  have ly := hy.le
  refine ⟨?_, ⟨trivial, _, hm⟩, ?_, fun _ _ => ?_, trivial⟩
  · repeat' first
      | with_reducible apply And.intro
      | exact trivial
      | exact rfl
      | assumption
  · repeat' first
      | with_reducible apply And.intro
      | exact trivial
      | exact rfl
      | assumption
  refine ⟨⟨trivial, ⟨_, hm2⟩, by omega⟩, ?_, fun z hz => ?_, trivial⟩
  · repeat' first
      | with_reducible apply And.intro
      | exact trivial
      | exact rfl
      | assumption
  obtain ⟨⟨z1, z2⟩, hz⟩ := hz
  have hz : HE .u8 z.c (encM a.a.t xs a.a.d) := hz _ hm2
  have fz := hz.flat
  have sz : Sli (Value.int .u8) 1 false 0 z.c.length z.k z.c (encM a.a.t xs a.a.d) := ⟨hz.at_, by have := hz.len; omega, (fun h => nomatch h), fun _ => by omega, z1, fz⟩
  refine ⟨⟨trivial, ⟨_, _, hx.sli, sz⟩, by omega, by omega⟩, ?_, fun s1 h1 => ⟨fun _ => ?_, fun hf => ?_⟩, trivial⟩
  · repeat' first
      | with_reducible apply And.intro
      | exact trivial
      | exact rfl
      | assumption
  case refine_3 =>
    have := (h1 _ _ hx.sli sz).2 rfl
    rw [hf] at this; cases this
  refine ⟨⟨trivial, ⟨_, _, hm, ho⟩, m1, m2⟩, ?_, fun s2 h2 => ?_, trivial⟩
  · repeat' first
      | with_reducible apply And.intro
      | exact trivial
      | exact rfl
      | assumption
  have h2 := h2 _ _ hm ho
  refine ⟨⟨trivial, ⟨_, _, hx.sli, hy.sli⟩, by omega, by omega⟩, ?_, fun s3 h3 => ⟨fun hne => ?_, fun _ => ?_⟩, trivial⟩
  · repeat' first
      | with_reducible apply And.intro
      | exact trivial
      | exact rfl
      | assumption
  case refine_2 =>
    have h3 := h3 _ _ hx.sli hy.sli
    exact absurd (Bool.eq_iff_iff.2 (h2.trans h3.symm)) hne
  refine ⟨⟨trivial, ⟨_, hx.sli, byts_encM _ _ _⟩, by omega⟩, ?_, fun r hr => ?_, fun e he => ?_, trivial⟩
  · repeat' first
      | with_reducible apply And.intro
      | exact trivial
      | exact rfl
      | assumption
  · obtain ⟨zs, hzs, hdec⟩ := hr _ hx.sli
    have fr := hzs.flat
    have fin : zs.length ≤ 100 → (∀ n ∈ zs, -2147483648 ≤ n ∧ n ≤ 2147483647) → r.d.Ok → encM r.t zs r.d = encM a.a.t xs a.a.d → MH ⟨r.t, ⟨r.s.n, 0, r.s.l, r.s.k, r.s.c⟩, r.d⟩ zs ∧ r.s.l ≤ 100 ∧
        ∀ b : BL, (∀ us vs : List Int, MH ⟨r.t, ⟨r.s.n, 0, r.s.l, r.s.k, r.s.c⟩, r.d⟩ us → MH ⟨a.a.t, ⟨false, 0, min a.a.s.l 8, p.k, p.c⟩, a.a.d⟩ vs → (b.b = true ↔ encM r.t us r.d = encM a.a.t vs a.a.d)) → ∃ _ : Unit, True ∧ true = b.b ∧ True := fun k1 k2 k3 k4 =>
      ⟨hzs.mh k2 k3, by have := hzs.l; omega, fun b hb => ⟨(), trivial, ((hb _ _ (hzs.mh k2 k3) hm).2 k4).symm, trivial⟩⟩
    refine ⟨fun ht => ?_, fun ht n hn => ⟨fun hlt => ?_, fun hge => ?_⟩⟩
    · rw [ht, dec_t hu.d] at hdec
      simp only [DM.mk.injEq] at hdec
      obtain ⟨_, e1, e2, e3⟩ := hdec
      obtain ⟨k1, k2, k3⟩ := fin (by rw [← e2]; decide) (by rw [← e2]; simp) (by rw [← e3]; exact hu.d) (by rw [← e1, ← e3, ht, encM_t rfl, encM_t rfl])
      refine ⟨⟨trivial, trivial⟩, ?_, fun _ _ => ?_, trivial⟩
      · repeat' first
          | with_reducible apply And.intro
          | exact trivial
          | exact rfl
          | assumption
      refine ⟨⟨trivial, ⟨_, _, k1, hm⟩, k2, m1⟩, ?_, k3, trivial⟩
      · repeat' first
          | with_reducible apply And.intro
          | exact trivial
          | exact rfl
          | assumption
    · rw [ht] at hdec
      have hd := dec_long (xs := xs) (d := a.a.d) (by omega) (by omega)
      rw [hdec] at hd
      exact absurd (show (0 : Int) = 2 from hd) (by decide)
    · rw [ht, dec_f cu.w (by omega)] at hdec
      simp only [DM.mk.injEq] at hdec
      obtain ⟨_, e1, e2, e3⟩ := hdec
      obtain ⟨k1, k2, k3⟩ := fin (by rw [← e2]; omega) (by rw [← e2]; exact cu.w) (by rw [← e3]; exact d80_ok) (by rw [← e1, ← e2, ht, encM_f rfl, encM_f rfl])
      refine ⟨⟨trivial, trivial⟩, ?_, fun _ _ => ?_, trivial⟩
      · repeat' first
          | with_reducible apply And.intro
          | exact trivial
          | exact rfl
          | assumption
      refine ⟨⟨trivial, ⟨_, _, k1, hm⟩, k2, m1⟩, ?_, k3, trivial⟩
      · repeat' first
          | with_reducible apply And.intro
          | exact trivial
          | exact rfl
          | assumption
  · obtain ⟨e0, he⟩ := he
    have he := he _ hx.sli
    refine ⟨fun ht => ?_, fun ht n hn => ⟨fun hlt => ?_, fun hge => ?_⟩⟩
    · rw [ht, dec_t hu.d] at he
      exact absurd he.symm e0
    · rw [ht, dec_long (by omega) (by omega)] at he
      refine ⟨⟨trivial, trivial⟩, ?_, fun _ _ => ⟨fun _ => ⟨(), trivial, rfl, trivial⟩, fun h => absurd he.symm h⟩, trivial⟩
      · repeat' first
          | with_reducible apply And.intro
          | exact trivial
          | exact rfl
          | assumption
    · rw [ht, dec_f cu.w (by omega)] at he
      exact absurd he.symm e0
theorem s_moves : SpecOK Tryz.prog S_moves.spec := fun a K hp hq => by
  obtain ⟨us, vs, hu, hv⟩ := hp
  exact specD_at (an := []) envOK (cwD_ok s_ofm (cwD_ok s_tom (cwD_ok s_encM (cwD_ok s_encM2 (cwD_ok s_same (cwD_ok s_sameM (cwD_ok s_decM (cwD_ok s_known cw0_ok)))))))) (fun _ => g_moves a us vs hu hv) K ⟨us, vs, hu, hv⟩ hq
end Go.Proofs.YtalbjjimnhldfaaGreatDoor
