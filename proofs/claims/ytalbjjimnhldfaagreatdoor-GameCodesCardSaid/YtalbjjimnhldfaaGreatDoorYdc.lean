/- Positions out of bytes: what is told of both Decodes (what is to be shown). -/
import Derived.Test.YtalbjjimnhldfaaGreatDoorYmv
section
set_option maxRecDepth 100000
namespace Go.Proofs.YtalbjjimnhldfaaGreatDoor
open Go.Ev
-- keep num foldI dnum frm Go.Ev.Sli lookN Byts8 valN lead rdC rsC wdC wsC dvC dWC dgC dGC dtC dTC r0C r1C r2C r3C r4C decP endC unfI OwB Go.Ev.HV LC LF RI tipsL goneL
structure LN where
  at_ : Int
  e : Int
  ns : List Int
def rsC (bs : List Int) (m : Int) : Nat → Int → Int → LN
  | 0, p, e => ⟨p, e, []⟩
  | n + 1, p, e => if e ≠ 0 then ⟨p, e, []⟩ else ⟨(rsC bs m n (rdC bs p 0 m).at_ (rdC bs p 0 m).e).at_, (rsC bs m n (rdC bs p 0 m).at_ (rdC bs p 0 m).e).e, (rdC bs p 0 m).n :: (rsC bs m n (rdC bs p 0 m).at_ (rdC bs p 0 m).e).ns⟩
def dvC (bs : List Int) : RR := rdC bs 0 0 64
def dWC (bs : List Int) : LW := wsC bs (dvC bs).n.toNat (dvC bs).at_ (dvC bs).e
def dgC (bs : List Int) : RR := rdC bs (dWC bs).at_ (dWC bs).e 8
def dGC (bs : List Int) : LN := rsC bs 1 (dgC bs).n.toNat (dgC bs).at_ (dgC bs).e
def dtC (bs : List Int) : RR := rdC bs (dGC bs).at_ (dGC bs).e 8
def dTC (bs : List Int) : LN := rsC bs 18446744073709551615 (dtC bs).n.toNat (dtC bs).at_ (dtC bs).e
def r0C (bs : List Int) : RR := rdC bs (dTC bs).at_ (dTC bs).e 18446744073709551615
def r1C (bs : List Int) : RR := rdC bs (r0C bs).at_ (r0C bs).e 18446744073709551615
def r2C (bs : List Int) : RR := rdC bs (r1C bs).at_ (r1C bs).e 18446744073709551615
def r3C (bs : List Int) : RR := rdC bs (r2C bs).at_ (r2C bs).e 18446744073709551615
def r4C (bs : List Int) : RR := rdC bs (r3C bs).at_ (r3C bs).e 18446744073709551615
structure DP where
  e : Int
  v : List Int
  g : List Bool
  t : List Int
  r0 : Int
  r1 : Int
  r2 : Int
  r3 : Int
  r4 : Int
def goneL (ns : List Int) : List Bool := ns.map fun n => decide (n = 1)
def tipsL (ns : List Int) : List Int := ns.flatMap fun n => (frm n).l
def decP (bs : List Int) : DP := ⟨endC bs (r4C bs).at_ (r4C bs).e, (dWC bs).ws, goneL (dGC bs).ns, tipsL (dTC bs).ns, unfI (r0C bs).n, unfI (r1C bs).n, unfI (r2C bs).n, unfI (r3C bs).n, (r4C bs).n⟩
structure LF {α : Type} (f : α → Value) (sz : Nat) (s : SN) (ys : List α) : Prop where
  he : Go.Ev.HW f s.c ys
  l : ys.length = s.l * sz
  le : s.l ≤ s.k
  nil : s.n = true → ys = [] ∧ s.k = 0
structure PL where
  at_ : Int
  e : Int
  n : Int
  i : Int
  v : SN
  g : SN
  t : SN
structure PM where
  b : OW
  at_ : Int
  e : Int
  n : Int
  i : Int
  v : SN
  g : SN
  t : SN
structure PR where
  v : SN
  g : SN
  t : SN
  r0 : Int
  r1 : Int
  r2 : Int
  r3 : Int
  r4 : Int
noncomputable section
abbrev nilS : Value := .slice none 0 0
abbrev z5 : List Value := [.int .i64 0, .int .i64 0, .int .i64 0, .int .i64 0, .int .u64 0]
abbrev PR.w (b : PR) (i : Nat) : List Value := b.v.v i :: b.g.v (i + 1) :: b.t.v (i + 2) :: [tgI .i64 b.r0, tgI .i64 b.r1, tgI .i64 b.r2, tgI .i64 b.r3, tgI .u64 b.r4]
def decPouts (i : Nat) (e : TypeId) : List (Out SA) := [⟨PR, fun a b => ∀ xs, Sli (Value.int .u8) 1 a.n a.o a.l a.k a.c xs → (decP xs).e = 0 ∧ (LC b.v (decP xs).v ∧ LF Value.bool 1 b.g (decP xs).g ∧ LF (Value.int .u8) 8 b.t (decP xs).t) ∧ b.r0 = (decP xs).r0 ∧ b.r1 = (decP xs).r1 ∧ b.r2 = (decP xs).r2 ∧ b.r3 = (decP xs).r3 ∧ b.r4 = (decP xs).r4,
    fun _ b => .tuple ⟨[.agg ⟨b.w i⟩, .int .i64 0]⟩, fun _ b => [(i, .f b.v.c 21 (.grown b.v.k)), (i + 1, .f b.g.c 4 (.grown b.g.k)), (i + 2, .f b.t.c e (.grown b.t.k))], fun _ _ => i + 3, fun v _ => paN i (agv (lv (agv v) 0))⟩,
    ⟨EE, fun a b => b.e ≠ 0 ∧ ∀ xs, Sli (Value.int .u8) 1 a.n a.o a.l a.k a.c xs → (decP xs).e = b.e, fun _ b => .tuple ⟨[.agg ⟨nilS :: nilS :: nilS :: z5⟩, tgI .i64 b.e]⟩, fun _ _ => [], fun _ _ => i, fun _ _ => []⟩]
def S_decP2 : SpecD where
  f := 28
  α := SA
  args a := [a.v 12]
  R a := [(12, .f a.c 5 .ro)]
  n := 12 + 1
  pre a := (∃ xs, Sli (Value.int .u8) 1 a.n a.o a.l a.k a.c xs ∧ Byts8 xs) ∧ a.l ≤ 100000
  outs := decPouts (12 + 1) 28
  pick v _ := errPick v
  find l A := saK A 12 (lv l 0) fun s r => some (s, r)
abbrev p2G (e : PL) : Nat × PO := (12 + 5, .f e.g.c 4 (.grown e.g.k))
abbrev p2T (e : PL) : Nat × PO := (12 + 6, .f e.t.c 28 (.grown e.t.k))
def p2N (s : St) (l : List (Nat × Nat)) : List (Nat × Nat) := renP (12 + 1) (tv s 4) ++ (renP (12 + 2) (tv s 5) ++ (renP (12 + 4) (tv s 2) ++ (renS (12 + 3) (lv (rowO s.A (ptB (tv s 4))) 0) ++ l)))
def p2ng (s : St) : List (Nat × Nat) := renS (12 + 5) (lv (rowO s.A (ptB (tv s 4))) 1)
def p2nt (s : St) : List (Nat × Nat) := renS (12 + 6) (lv (rowO s.A (ptB (tv s 4))) 2)
abbrev p2S : List (Nat × Value) := [(2, .pointer (some ⟨12 + 4, 0, none⟩)), (4, .pointer (some ⟨12 + 1, 0, none⟩)), (5, .pointer (some ⟨12 + 2, 0, none⟩))]
abbrev inL (a : SA) (e : PL) (n : Int) : Prop := (0 ≤ e.i ∧ e.i ≤ e.n) ∧ e.n = n ∧ (0 ≤ e.at_ ∧ e.at_ ≤ a.l)
def S_decP : SpecD where
  f := 27
  α := SA
  args a := [a.v 12]
  R a := [(12, .f a.c 5 .gro)]
  n := 12 + 1
  pre a := (∃ xs, Sli (Value.int .u8) 1 a.n a.o a.l a.k a.c xs ∧ Byts8 xs) ∧ a.l ≤ 100000
  outs := decPouts (12 + 1) 29
  pick v _ := errPick v
  find l A := saK A 12 (lv l 0) fun s r => some (s, r)
abbrev p1R (e : PM) (gv tv : Value) (rs : List (Nat × PO)) : List (Nat × PO) := (12 + 1, .p (.row (e.v.v (12 + 3) :: gv :: tv :: z5) 37 .own)) :: (12 + 2, .p (.row [tgS (12 + 7) 0 e.b.l e.b.k, tgI .i64 e.at_, tgI .i64 e.e] 176 .own)) :: (12 + 3, .f e.v.c 21 (.grown e.v.k)) :: (12 + 4, .p (.row (nilS :: nilS :: nilS :: z5) 37 .own)) :: (12 + 7, .f e.b.c 5 .ro) :: rs
abbrev p1G (e : PM) : Nat × PO := (12 + 5, .f e.g.c 4 (.grown e.g.k))
abbrev p1T (e : PM) : Nat × PO := (12 + 6, .f e.t.c 29 (.grown e.t.k))
def p1N (s : St) (l : List (Nat × Nat)) : List (Nat × Nat) := renP (12 + 1) (tv s 5) ++ (renP (12 + 2) (tv s 4) ++ (renP (12 + 4) (tv s 2) ++ (renS (12 + 3) (lv (rowO s.A (ptB (tv s 5))) 0) ++ (renS (12 + 7) (lv (rowO s.A (ptB (tv s 4))) 0) ++ l))))
def p1ng (s : St) : List (Nat × Nat) := renS (12 + 5) (lv (rowO s.A (ptB (tv s 5))) 1)
def p1nt (s : St) : List (Nat × Nat) := renS (12 + 6) (lv (rowO s.A (ptB (tv s 5))) 2)
abbrev p1S : List (Nat × Value) := [(2, .pointer (some ⟨12 + 4, 0, none⟩)), (5, .pointer (some ⟨12 + 1, 0, none⟩)), (4, .pointer (some ⟨12 + 2, 0, none⟩))]
abbrev inM (e : PM) (xs : List Int) (n : Int) : Prop := (0 ≤ e.i ∧ e.i ≤ e.n) ∧ e.n = n ∧ RI ⟨⟨false, 0, e.b.l, e.b.k, e.b.c⟩, e.at_, e.e, 0⟩ xs ∧ e.b.l ≤ 100000
def Fol (T S : LN) (ys : List Int) : Prop := T.e = S.e ∧ (S.e = 0 → T = ⟨S.at_, 0, ys ++ S.ns⟩)
def la_m1 (xs : List Int) : LA where
  α := PM
  at_ e := ⟨p1S ++ [(25, tgI .u64 e.n), (26, tgI .u64 e.i)], p1R e (e.g.v (12 + 5)) nilS [p1G e], 12 + 8⟩
  J e := inM e xs (dgC xs).n ∧ LC e.v (dWC xs).ws ∧ ∃ ys, LF Value.bool 1 e.g (goneL ys) ∧ (ys.length : Int) = e.i ∧ Fol (dGC xs) (rsC xs 1 (e.n - e.i).toNat e.at_ e.e) ys
  μ e := (e.n - e.i).toNat
  ren s := p1N s (p1ng s)
def la_m2 (xs : List Int) : LA where
  α := PM
  at_ e := ⟨p1S ++ [(38, tgI .u64 e.n), (39, tgI .u64 e.i)], p1R e (e.g.v (12 + 5)) (e.t.v (12 + 6)) [p1G e, p1T e], 12 + 8⟩
  J e := inM e xs (dtC xs).n ∧ LC e.v (dWC xs).ws ∧ ∃ gs, (LF Value.bool 1 e.g (goneL gs) ∧ ((dGC xs).e = 0 → gs = (dGC xs).ns)) ∧ ∃ ys, LF (Value.int .u8) 8 e.t (tipsL ys) ∧ (ys.length : Int) = e.i ∧ Fol (dTC xs) (rsC xs 18446744073709551615 (e.n - e.i).toNat e.at_ e.e) ys
  μ e := (e.n - e.i).toNat
  ren s := p1N s (p1ng s ++ p1nt s)
def G_decP (a : SA) (xs : List Int) : Prop := fnW Tryz.prog E0 (cwN (fun c => cwD Tryz.prog S_fresh (cwD Tryz.prog S_rnum (cwD Tryz.prog S_rint (cwD Tryz.prog S_words (cwD Tryz.prog S_hfrom c))))) 3) [some (la_m1 xs), some (la_m2 xs), none] S_decP.f (S_decP.args a) (mem (S_decP.R a) S_decP.n) (endD Tryz.prog S_decP a)
end
end Go.Proofs.YtalbjjimnhldfaaGreatDoor
end

/- Positions out of bytes: what is told of the document's Decode is so. -/
section
set_option maxRecDepth 100000
namespace Go.Proofs.YtalbjjimnhldfaaGreatDoor
open Go.Ev
theorem LF.none {α : Type} {f : α → Value} {sz : Nat} : LF f sz ⟨true, 0, 0, []⟩ ([] : List α) := ⟨.nil, by simp, Nat.le_refl _, fun _ => ⟨rfl, rfl⟩⟩
theorem LF.one {α : Type} {f : α → Value} {sz : Nat} {vs : List Value} {zs : List α} (h : HW f vs zs) (hl : zs.length = sz) : LF f sz ⟨false, 1, 1, vs⟩ zs := ⟨h, by simp [hl], Nat.le_refl _, fun h => by cases h⟩
theorem LF.snoc {α : Type} {f : α → Value} {sz : Nat} {s : SN} {ys zs : List α} {vs : List Value} (h : LF f sz s ys) (g : HW f vs zs) (hl : zs.length = sz) {n k : Nat} (hn : n = s.l + 1) (hk : k = if n ≤ s.k then s.k else n) : LF f sz ⟨false, n, k, s.c ++ vs⟩ (ys ++ zs) :=
  ⟨h.he.append g, by have := h.l; simp [hl, hn, Nat.add_mul, this], by show n ≤ k; rw [hk]; split <;> omega, fun h => by cases h⟩
theorem LF.len {α : Type} {f : α → Value} {sz : Nat} {s : SN} {ys : List α} (h : LF f sz s ys) : s.c.length = s.l * sz := by rw [h.he.len]; exact h.l
theorem LF.sli {α : Type} {f : α → Value} {sz : Nat} {s : SN} {ys : List α} (h : LF f sz s ys) (hs : 0 < sz) (hf : FlatL s.c) : Sli f sz s.n 0 s.l s.k s.c ys :=
  ⟨h.he.at_, h.l, fun hn => ⟨by have h1 := (h.nil hn).1; have h2 := h.l; subst h1; rcases Nat.eq_zero_or_pos s.l with e | e; exact e; have := Nat.mul_pos e hs; simp at h2; omega, (h.nil hn).2⟩, fun _ => by rw [h.len]; omega, h.le, hf⟩
theorem HW.oneV {α : Type} {f : α → Value} {z : α} : HW f [f z] [z] := ⟨rfl, fun i x h => by
  cases i with
  | zero => simp at h; subst h; exact .inl rfl
  | succ i => simp at h⟩
theorem frm_hw (n : Int) : HE .u8 (frm n).c (frm n).l := (((((((HW.one.append HW.one).append HW.one).append HW.one).append HW.one).append HW.one).append HW.one).append HW.one)
theorem rsC_ne (bs : List Int) (m : Int) (n : Nat) (p : Int) {e : Int} (h : e ≠ 0) : rsC bs m n p e = ⟨p, e, []⟩ := by
  cases n with
  | zero => rfl
  | succ n => unfold rsC; rw [if_pos h]
theorem rsC_succ (bs : List Int) (m : Int) (n : Nat) (p : Int) : rsC bs m (n + 1) p 0 = ⟨(rsC bs m n (rdC bs p 0 m).at_ (rdC bs p 0 m).e).at_, (rsC bs m n (rdC bs p 0 m).at_ (rdC bs p 0 m).e).e, (rdC bs p 0 m).n :: (rsC bs m n (rdC bs p 0 m).at_ (rdC bs p 0 m).e).ns⟩ := by
  rw [rsC, if_neg (by simp)]
theorem ws_more {xs ys : List Int} {T : LW} {p e n i z : Int} {w : WR} (he : e = 0) (hlt : i < n) (hw : w = wdC xs p e) (hz : z = i + 1)
    (hT : T = ⟨(wsC xs (n - i).toNat p e).at_, (wsC xs (n - i).toNat p e).e, ys ++ (wsC xs (n - i).toNat p e).ws⟩) :
    T = ⟨(wsC xs (n - z).toNat w.at_ w.e).at_, (wsC xs (n - z).toNat w.at_ w.e).e, (ys ++ [w.w]) ++ (wsC xs (n - z).toNat w.at_ w.e).ws⟩ := by
  subst he hz
  rw [hT, show (n - i).toNat = (n - (i + 1)).toNat + 1 by omega, wsC_succ, ← hw]
  simp
theorem ws_end {xs ys : List Int} {T : LW} {p e n i : Int} (h : e ≠ 0 ∨ ¬ i < n) (hT : T = ⟨(wsC xs (n - i).toNat p e).at_, (wsC xs (n - i).toNat p e).e, ys ++ (wsC xs (n - i).toNat p e).ws⟩) : T = ⟨p, e, ys⟩ := by
  have : wsC xs (n - i).toNat p e = ⟨p, e, []⟩ := by
    rcases h with h | h
    · exact wsC_ne _ _ _ h
    · rw [show (n - i).toNat = 0 by omega]; rfl
  rw [hT, this]; simp
theorem rs_more {xs ys : List Int} {m : Int} {T : LN} {p e n i z : Int} {r : RR} (he : e = 0) (hlt : i < n) (hr : r = rdC xs p e m) (hz : z = i + 1)
    (hT : T = ⟨(rsC xs m (n - i).toNat p e).at_, (rsC xs m (n - i).toNat p e).e, ys ++ (rsC xs m (n - i).toNat p e).ns⟩) :
    T = ⟨(rsC xs m (n - z).toNat r.at_ r.e).at_, (rsC xs m (n - z).toNat r.at_ r.e).e, (ys ++ [r.n]) ++ (rsC xs m (n - z).toNat r.at_ r.e).ns⟩ := by
  subst he hz
  rw [hT, show (n - i).toNat = (n - (i + 1)).toNat + 1 by omega, rsC_succ, ← hr]
  simp
theorem rs_end {xs ys : List Int} {m : Int} {T : LN} {p e n i : Int} (h : e ≠ 0 ∨ ¬ i < n) (hT : T = ⟨(rsC xs m (n - i).toNat p e).at_, (rsC xs m (n - i).toNat p e).e, ys ++ (rsC xs m (n - i).toNat p e).ns⟩) : T = ⟨p, e, ys⟩ := by
  have : rsC xs m (n - i).toNat p e = ⟨p, e, []⟩ := by
    rcases h with h | h
    · exact rsC_ne _ _ _ _ h
    · rw [show (n - i).toNat = 0 by omega]; rfl
  rw [hT, this]; simp
theorem gone_snoc (ys : List Int) (n : Int) : goneL (ys ++ [n]) = goneL ys ++ [decide (n = 1)] := by simp [goneL]
theorem tips_snoc (ys : List Int) (n : Int) : tipsL (ys ++ [n]) = tipsL ys ++ (frm n).l := by simp [tipsL]
theorem gone_len (ys : List Int) : (goneL ys).length = ys.length := by simp [goneL]
theorem tips_len (ys : List Int) : (tipsL ys).length = ys.length * 8 := by
  induction ys with
  | nil => rfl
  | cons y ys ih => unfold tipsL at ih ⊢; rw [List.flatMap_cons, List.length_append, ih, List.length_cons]; show 8 + _ = _; omega
end Go.Proofs.YtalbjjimnhldfaaGreatDoor
end

/- Positions out of bytes that append put together: what is told of the document's Decode (what is to be shown). -/
section
set_option maxRecDepth 100000
namespace Go.Proofs.YtalbjjimnhldfaaGreatDoor
open Go.Ev
-- keep num foldI dnum frm Go.Ev.Sli lookN Byts8 valN lead rdC rsC wdC wsC dvC dWC dgC dGC dtC dTC r0C r1C r2C r3C r4C decP endC unfI OwB Go.Ev.HV LC LF RI tipsL goneL
noncomputable section
def S_read1g : SpecD := { S_read1 with
  R := fun (a : RA) => [(12, .f a.s.c 5 .gro)]
  pre := fun (a : RA) => (∃ xs, RI a xs) ∧ (a.e = 0 → a.at_ < a.s.l) ∧ a.s.l ≤ 1000000 }
def G_read1g (a : RA) : Prop := fnW Tryz.prog E0 (cwN (cwD Tryz.prog S_num1) 2) [] S_read1g.f (S_read1g.args a) (mem (S_read1g.R a) S_read1g.n) (endD Tryz.prog S_read1g a)
def S_word1g : SpecD := { S_word1 with
  R := fun (a : RA) => [(12, .f a.s.c 5 .gro)]
  pre := fun (a : RA) => (∃ xs, RI a xs) ∧ (a.e = 0 → a.at_ < a.s.l) ∧ a.s.l ≤ 1000000 }
def G_word1g (a : RA) : Prop := fnW Tryz.prog E0 (cwN (fun c => cwD Tryz.prog S_read1g (cwD Tryz.prog S_unf1 c)) 2) [] S_word1g.f (S_word1g.args a) (mem (S_word1g.R a) S_word1g.n) (endD Tryz.prog S_word1g a)
def S_decP2g : SpecD := { S_decP2 with
  R := fun (a : SA) => [(12, .f a.c 5 .gro)]
  pre := fun (a : SA) => (∃ xs, Sli (Value.int .u8) 1 a.n a.o a.l a.k a.c xs ∧ Byts8 xs ∧ (decP xs).e ≠ 4) ∧ a.l ≤ 100000 }
abbrev p2Rg (a : SA) (e : PL) (gv tv : Value) (rs : List (Nat × PO)) : List (Nat × PO) := (12, .f a.c 5 .gro) :: (12 + 1, .p (.row (e.v.v (12 + 3) :: gv :: tv :: z5) 66 .own)) :: (12 + 2, .p (.row [a.v 12, tgI .i64 e.at_, tgI .i64 e.e] 130 .own)) :: (12 + 3, .f e.v.c 21 (.grown e.v.k)) :: (12 + 4, .p (.row (nilS :: nilS :: nilS :: z5) 66 .own)) :: rs
def la_g1 (a : SA) (xs : List Int) : LA where
  α := PL
  at_ e := ⟨p2S ++ [(6, tgI .u64 e.n), (7, tgI .u64 e.i)], p2Rg a e nilS nilS [], 12 + 5⟩
  J e := inL a e (dvC xs).n ∧ ∃ ys, LC e.v ys ∧ (ys.length : Int) = e.i ∧ dWC xs = ⟨(wsC xs (e.n - e.i).toNat e.at_ e.e).at_, (wsC xs (e.n - e.i).toNat e.at_ e.e).e, ys ++ (wsC xs (e.n - e.i).toNat e.at_ e.e).ws⟩
  μ e := (e.n - e.i).toNat
  ren s := p2N s []
  xt := some (0, { β := PL, at_ := fun e => ⟨p2S, p2Rg a e nilS nilS [], 12 + 5⟩, J := fun e => (0 ≤ e.at_ ∧ e.at_ ≤ a.l) ∧ LC e.v (dWC xs).ws ∧ e.at_ = (dWC xs).at_ ∧ e.e = (dWC xs).e, ren := fun s => p2N s [] })
def la_g2 (a : SA) (xs : List Int) : LA where
  α := PL
  at_ e := ⟨p2S ++ [(6, tgI .u64 e.n), (10, tgI .u64 e.i)], p2Rg a e (e.g.v (12 + 5)) nilS [p2G e], 12 + 6⟩
  J e := inL a e (dgC xs).n ∧ LC e.v (dWC xs).ws ∧ ∃ ys, LF Value.bool 1 e.g (goneL ys) ∧ (ys.length : Int) = e.i ∧ dGC xs = ⟨(rsC xs 1 (e.n - e.i).toNat e.at_ e.e).at_, (rsC xs 1 (e.n - e.i).toNat e.at_ e.e).e, ys ++ (rsC xs 1 (e.n - e.i).toNat e.at_ e.e).ns⟩
  μ e := (e.n - e.i).toNat
  ren s := p2N s (p2ng s)
  xt := some (2, { β := PL, at_ := fun e => ⟨p2S, p2Rg a e (e.g.v (12 + 5)) nilS [p2G e], 12 + 6⟩, J := fun e => (0 ≤ e.at_ ∧ e.at_ ≤ a.l) ∧ LC e.v (dWC xs).ws ∧ LF Value.bool 1 e.g (goneL (dGC xs).ns) ∧ e.at_ = (dGC xs).at_ ∧ e.e = (dGC xs).e, ren := fun s => p2N s (p2ng s) })
def la_g3 (a : SA) (xs : List Int) : LA where
  α := PL
  at_ e := ⟨p2S ++ [(6, tgI .u64 e.n), (13, tgI .u64 e.i)], p2Rg a e (e.g.v (12 + 5)) (e.t.v (12 + 6)) [p2G e, p2T e], 12 + 7⟩
  J e := inL a e (dtC xs).n ∧ LC e.v (dWC xs).ws ∧ LF Value.bool 1 e.g (goneL (dGC xs).ns) ∧ ∃ ys, LF (Value.int .u8) 8 e.t (tipsL ys) ∧ (ys.length : Int) = e.i ∧ dTC xs = ⟨(rsC xs 18446744073709551615 (e.n - e.i).toNat e.at_ e.e).at_, (rsC xs 18446744073709551615 (e.n - e.i).toNat e.at_ e.e).e, ys ++ (rsC xs 18446744073709551615 (e.n - e.i).toNat e.at_ e.e).ns⟩
  μ e := (e.n - e.i).toNat
  ren s := p2N s (p2ng s ++ p2nt s)
  xt := some (4, { β := PL, at_ := fun e => ⟨p2S, p2Rg a e (e.g.v (12 + 5)) (e.t.v (12 + 6)) [p2G e, p2T e], 12 + 7⟩, J := fun e => (0 ≤ e.at_ ∧ e.at_ ≤ a.l) ∧ LC e.v (dWC xs).ws ∧ LF Value.bool 1 e.g (goneL (dGC xs).ns) ∧ LF (Value.int .u8) 8 e.t (tipsL (dTC xs).ns) ∧ e.at_ = (dTC xs).at_ ∧ e.e = (dTC xs).e, ren := fun s => p2N s (p2ng s ++ p2nt s) })
def G_decP2g (a : SA) (xs : List Int) : Prop := fnW Tryz.prog E0 (cwN (fun c => cwD Tryz.prog S_read1g (cwD Tryz.prog S_word1g (cwD Tryz.prog S_dfrom (cwD Tryz.prog S_unf1 c)))) 2) [some (la_g1 a xs), some (la_g2 a xs), some (la_g3 a xs), none] S_decP2g.f (S_decP2g.args a) (mem (S_decP2g.R a) S_decP2g.n) (endD Tryz.prog S_decP2g a)
end
end Go.Proofs.YtalbjjimnhldfaaGreatDoor
end

/- Positions out of bytes that append put together: what is told of the document's Decode is so. -/
set_option maxRecDepth 100000
namespace Go.Proofs.YtalbjjimnhldfaaGreatDoor
open Go.Ev
noncomputable section
def W_G_decP2g_0 : PL → Option AO := fun (x70 : PL) => Option.some (AO.row [Value.iface (1000000009 : Nat) (Value.agg (Array.mk [Value.bool x70.5.1, Value.slice (Option.some (Addr.mk (15 : Nat) (0 : Nat) Option.none))
x70.5.2 x70.5.3])), Value.iface (1000000009 : Nat) (Value.agg (Array.mk [Value.bool x70.6.1, Value.slice (Option.some (Addr.mk (17 : Nat) (0 : Nat) Option.none)) x70.6.2
x70.6.3])), Value.iface (1000000009 : Nat) (Value.agg (Array.mk [Value.bool x70.7.1, Value.slice (Option.some (Addr.mk (18 : Nat) (0 : Nat) Option.none)) x70.7.2 x70.7.3])),
Value.int IntKind.i64 (0 : Int), Value.int IntKind.i64 (0 : Int), Value.int IntKind.i64 (0 : Int), Value.int IntKind.i64 (0 : Int), Value.int IntKind.u64 (0 : Int)] (66 : Nat)
Md.own)
end
theorem vc_read1g (a : RA) : G_read1g a = ((a.3 ≠ 0 → ∃ (x0 : RR), (∀ (x1 : List Int), RI a x1 → x0 = rdC x1 a.2 a.3 a.4) ∧ ((Z4 a.1 ∧ x0.1 = a.2 ∧ x0.2 = a.3 ∧ True) ∧ x0.3 = 0 ∧ True) ∧ True) ∧ (¬a.3 ≠ 0 → (a.1.1 = true
→ (a.2 = 0 ∧ (0 : Int) = 0) ∧ (True ∧ (∃ (x2 : List Int), SB true 0 0 0 [] x2 ∧ Byts8 x2) ∧ 0 ≤ 1000000) ∧ (((true = true ∧ 0 = 0 ∧ 0 = 0) ∧ True) ∧ (FlatL [] ∧ True) ∧ True) ∧ (∀
(x3 : LR), (∀ (x4 : List Int), SB true 0 0 0 [] x4 → x3 = lookN x4) → (x3.3 = 0 → (a.4 < x3.1 → ∃ (x5 : RR), (∀ (x6 : List Int), RI a x6 → x5 = rdC x6 a.2 a.3 a.4) ∧ ((Z4 a.1 ∧
x5.1 = a.2 ∧ x5.2 = 2 ∧ True) ∧ x5.3 = 0 ∧ True) ∧ True) ∧ (¬a.4 < x3.1 → (x3.3 ≠ 0 → ∃ (x7 : RR), (∀ (x8 : List Int), RI a x8 → x7 = rdC x8 a.2 a.3 a.4) ∧ ((Z4 a.1 ∧ x7.1 = a.2 ∧
x7.2 = x3.3 ∧ True) ∧ x7.3 = 0 ∧ True) ∧ True) ∧ (¬x3.3 ≠ 0 → ∀ x9, x9 = IntKind.wrap .i64 (a.2 + x3.2) → ∃ (x10 : RR), (∀ (x11 : List Int), RI a x11 → x10 = rdC x11 a.2 a.3 a.4) ∧
((Z4 a.1 ∧ x10.1 = x9 ∧ x10.2 = a.3 ∧ True) ∧ x10.3 = x3.1 ∧ True) ∧ True))) ∧ (¬x3.3 = 0 → (x3.3 ≠ 0 → ∃ (x12 : RR), (∀ (x13 : List Int), RI a x13 → x12 = rdC x13 a.2 a.3 a.4) ∧
((Z4 a.1 ∧ x12.1 = a.2 ∧ x12.2 = x3.3 ∧ True) ∧ x12.3 = 0 ∧ True) ∧ True) ∧ (¬x3.3 ≠ 0 → ∀ x14, x14 = IntKind.wrap .i64 (a.2 + x3.2) → ∃ (x15 : RR), (∀ (x16 : List Int), RI a x16 →
x15 = rdC x16 a.2 a.3 a.4) ∧ ((Z4 a.1 ∧ x15.1 = x14 ∧ x15.2 = a.3 ∧ True) ∧ x15.3 = x3.1 ∧ True) ∧ True))) ∧ True) ∧ (a.1.1 = false → ((0 ≤ a.2 ∧ a.2 ≤ (↑a.1.3 : Int) ∧ (↑a.1.3 :
Int) ≤ (↑a.1.4 : Int)) ∧ (true = true → (↑a.1.3 : Int) ≤ (↑a.1.3 : Int) ∧ (a.2 = 0 ∨ a.2 < (↑a.1.4 : Int)))) ∧ ∀ (x17 x18 x19 : Nat), (x17 = if SA.k (RA.s a) = Int.toNat (RA.at_ a)
then a.1.2 else a.1.2 + Int.toNat a.2 * 1) → x18 = Int.toNat (↑a.1.3 : Int) - Int.toNat a.2 → x19 = a.1.4 - Int.toNat a.2 → (True ∧ (∃ (x20 : List Int), SB false x17 x18 x19 a.1.5
x20 ∧ Byts8 x20) ∧ x18 ≤ 1000000) ∧ (((false = false ∧ x17 = x17 ∧ x18 = x18 ∧ x19 = x19) ∧ True) ∧ ZF a.1.5 ∧ True) ∧ (∀ (x21 : LR), (∀ (x22 : List Int), SB false x17 x18 x19
a.1.5 x22 → x21 = lookN x22) → (x21.3 = 0 → (a.4 < x21.1 → ∃ (x23 : RR), (∀ (x24 : List Int), RI a x24 → x23 = rdC x24 a.2 a.3 a.4) ∧ ((Z4 a.1 ∧ x23.1 = a.2 ∧ x23.2 = 2 ∧ True) ∧
x23.3 = 0 ∧ True) ∧ True) ∧ (¬a.4 < x21.1 → (x21.3 ≠ 0 → ∃ (x25 : RR), (∀ (x26 : List Int), RI a x26 → x25 = rdC x26 a.2 a.3 a.4) ∧ ((Z4 a.1 ∧ x25.1 = a.2 ∧ x25.2 = x21.3 ∧ True) ∧
x25.3 = 0 ∧ True) ∧ True) ∧ (¬x21.3 ≠ 0 → ∀ x27, x27 = IntKind.wrap .i64 (a.2 + x21.2) → ∃ (x28 : RR), (∀ (x29 : List Int), RI a x29 → x28 = rdC x29 a.2 a.3 a.4) ∧ ((Z4 a.1 ∧ x28.1
= x27 ∧ x28.2 = a.3 ∧ True) ∧ x28.3 = x21.1 ∧ True) ∧ True))) ∧ (¬x21.3 = 0 → (x21.3 ≠ 0 → ∃ (x30 : RR), (∀ (x31 : List Int), RI a x31 → x30 = rdC x31 a.2 a.3 a.4) ∧ ((Z4 a.1 ∧
x30.1 = a.2 ∧ x30.2 = x21.3 ∧ True) ∧ x30.3 = 0 ∧ True) ∧ True) ∧ (¬x21.3 ≠ 0 → ∀ x32, x32 = IntKind.wrap .i64 (a.2 + x21.2) → ∃ (x33 : RR), (∀ (x34 : List Int), RI a x34 → x33 =
rdC x34 a.2 a.3 a.4) ∧ ((Z4 a.1 ∧ x33.1 = x32 ∧ x33.2 = a.3 ∧ True) ∧ x33.3 = x21.1 ∧ True) ∧ True))) ∧ True))) := by kernel_rfl
theorem vc_word1g (a : RA) : G_word1g a = ((True ∧ (∃ (x0 : List Int), RI (RA.mk (SA.mk a.1.1 a.1.2 a.1.3 a.1.4 a.1.5) a.2 a.3 (18446744073709551615 : Int)) x0) ∧ (a.3 = 0 → a.2 < (↑a.1.3 : Int)) ∧ a.1.3 ≤ 1000000) ∧ (((Z4
a.1 ∧ a.2 = a.2 ∧ a.3 = a.3 ∧ True) ∧ Int.ofNat 18446744073709551615 = (18446744073709551615 : Int) ∧ True) ∧ ZF a.1.5 ∧ True) ∧ (∀ (x1 : RR), (∀ (x2 : List Int), RI (RA.mk (SA.mk
a.1.1 a.1.2 a.1.3 a.1.4 a.1.5) a.2 a.3 (18446744073709551615 : Int)) x2 → x1 = rdC x2 a.2 a.3 (Int.ofNat 18446744073709551615)) → (True ∧ (0 ≤ x1.3 ∧ x1.3 < 18446744073709551616) ∧
True) ∧ ((x1.3 = x1.3 ∧ True) ∧ True) ∧ (∀ (x3 : Unit), True → (x1.2 = 0 → (unfI x1.3 < -2147483648 → ∃ (x4 : WR), (∀ (x5 : List Int), RI a x5 → x4 = wdC x5 a.2 a.3) ∧ ((Z4 a.1 ∧
x4.1 = a.2 ∧ x4.2 = 2 ∧ True) ∧ x4.3 = 0 ∧ True) ∧ True) ∧ (¬unfI x1.3 < -2147483648 → ((2147483647 : Int) < unfI x1.3 → ∃ (x6 : WR), (∀ (x7 : List Int), RI a x7 → x6 = wdC x7 a.2
a.3) ∧ ((Z4 a.1 ∧ x6.1 = a.2 ∧ x6.2 = 2 ∧ True) ∧ x6.3 = 0 ∧ True) ∧ True) ∧ (¬(2147483647 : Int) < unfI x1.3 → ∀ x8, x8 = IntKind.wrap .i32 (unfI x1.3) → ∃ (x9 : WR), (∀ (x10 :
List Int), RI a x10 → x9 = wdC x10 a.2 a.3) ∧ ((Z4 a.1 ∧ x9.1 = x1.1 ∧ x9.2 = x1.2 ∧ True) ∧ x9.3 = x8 ∧ True) ∧ True))) ∧ (¬x1.2 = 0 → ∀ x11, x11 = IntKind.wrap .i32 (unfI x1.3) →
∃ (x12 : WR), (∀ (x13 : List Int), RI a x13 → x12 = wdC x13 a.2 a.3) ∧ ((Z4 a.1 ∧ x12.1 = x1.1 ∧ x12.2 = x1.2 ∧ True) ∧ x12.3 = x11 ∧ True) ∧ True)) ∧ True) ∧ True) := by kernel_rfl
set_option maxHeartbeats 3200000 in
theorem vc_decP2g (a : SA) (xs : List Int) : G_decP2g a xs = ((True ∧ (∃ (x0 : List Int), RI (RA.mk (SA.mk a.1 a.2 a.3 a.4 a.5) (0 : Int) (0 : Int) (64 : Int)) x0) ∧ (Int.ofNat 0 = (0 : Int) → Int.ofNat 0 < (↑a.3 : Int)) ∧ a.3 ≤ 1000000) ∧
(((Z4 a ∧ Int.ofNat 0 = (0 : Int) ∧ Int.ofNat 0 = (0 : Int) ∧ True) ∧ Int.ofNat 64 = (64 : Int) ∧ True) ∧ ZF a.5 ∧ True) ∧ (∀ (x1 : RR), (∀ (x2 : List Int), RI (RA.mk (SA.mk a.1
a.2 a.3 a.4 a.5) (0 : Int) (0 : Int) (64 : Int)) x2 → x1 = rdC x2 (Int.ofNat 0) (Int.ofNat 0) (Int.ofNat 64)) → (∃ (x3 : PL), (((0 ≤ x3.4 ∧ x3.4 ≤ x3.3) ∧ x3.3 = (dvC xs).3 ∧ 0 ≤
x3.1 ∧ x3.1 ≤ (↑a.3 : Int)) ∧ ∃ (x4 : List Int), LC x3.5 x4 ∧ (↑(List.length x4) : Int) = x3.4 ∧ dWC xs = LW.mk (wsC xs (Int.toNat (x3.3 - x3.4)) x3.1 x3.2).1 (wsC xs (Int.toNat
(x3.3 - x3.4)) x3.1 x3.2).2 (x4 ++ (wsC xs (Int.toNat (x3.3 - x3.4)) x3.1 x3.2).3)) ∧ ((0 = 0 ∧ 0 = 0 ∧ 0 = 0 ∧ x3.3 = x1.3 ∧ x3.4 = 0 ∧ True) ∧ (ZF a.5 ∧ (True ∧ (x3.5.1 = true ∧
x3.5.2 = 0 ∧ x3.5.3 = 0) ∧ (0 = 0 ∧ 0 = 0) ∧ (0 = 0 ∧ 0 = 0) ∧ (0 : Int) = 0 ∧ (0 : Int) = 0 ∧ (0 : Int) = 0 ∧ (0 : Int) = 0 ∧ (0 : Int) = 0 ∧ True) ∧ (True ∧ Z4 a ∧ x3.1 = x1.1 ∧
x3.2 = x1.2 ∧ True) ∧ (FlatL x3.5.4 ∧ True) ∧ (True ∧ (0 = 0 ∧ 0 = 0) ∧ (0 = 0 ∧ 0 = 0) ∧ (0 = 0 ∧ 0 = 0) ∧ (0 : Int) = 0 ∧ (0 : Int) = 0 ∧ (0 : Int) = 0 ∧ (0 : Int) = 0 ∧ (0 :
Int) = 0 ∧ True) ∧ True) ∧ True) ∧ ∀ (x5 : PL), (((0 ≤ x5.4 ∧ x5.4 ≤ x5.3) ∧ x5.3 = (dvC xs).3 ∧ 0 ≤ x5.1 ∧ x5.1 ≤ (↑a.3 : Int)) ∧ ∃ (x6 : List Int), LC x5.5 x6 ∧ (↑(List.length
x6) : Int) = x5.4 ∧ dWC xs = LW.mk (wsC xs (Int.toNat (x5.3 - x5.4)) x5.1 x5.2).1 (wsC xs (Int.toNat (x5.3 - x5.4)) x5.1 x5.2).2 (x6 ++ (wsC xs (Int.toNat (x5.3 - x5.4)) x5.1
x5.2).3)) → (x5.4 < x5.3 → (x5.2 = 0 → (True ∧ (∃ (x7 : List Int), RI (RA.mk (SA.mk a.1 a.2 a.3 a.4 a.5) x5.1 x5.2 (0 : Int)) x7) ∧ (x5.2 = 0 → x5.1 < (↑a.3 : Int)) ∧ a.3 ≤
1000000) ∧ (((Z4 a ∧ x5.1 = x5.1 ∧ x5.2 = x5.2 ∧ True) ∧ True) ∧ ZF a.5 ∧ True) ∧ (∀ (x8 : WR), (∀ (x9 : List Int), RI (RA.mk (SA.mk a.1 a.2 a.3 a.4 a.5) x5.1 x5.2 (0 : Int)) x9 →
x8 = wdC x9 x5.1 x5.2) → (x5.5.1 = true → 1 ≤ List.length [Value.iface 1000000007 (Value.int IntKind.i32 x8.3)] ∧ ∀ (x10 : List Value), x10 = lwin [Value.iface 1000000007
(Value.int IntKind.i32 x8.3)] 0 1 → (1 = 0 → ∀ x11, x11 = IntKind.wrap .u64 (x5.4 + (1 : Int)) → ∃ (x12 : PL), (((0 ≤ x12.4 ∧ x12.4 ≤ x12.3) ∧ x12.3 = (dvC xs).3 ∧ 0 ≤ x12.1 ∧
x12.1 ≤ (↑a.3 : Int)) ∧ ∃ (x13 : List Int), LC x12.5 x13 ∧ (↑(List.length x13) : Int) = x12.4 ∧ dWC xs = LW.mk (wsC xs (Int.toNat (x12.3 - x12.4)) x12.1 x12.2).1 (wsC xs (Int.toNat
(x12.3 - x12.4)) x12.1 x12.2).2 (x13 ++ (wsC xs (Int.toNat (x12.3 - x12.4)) x12.1 x12.2).3)) ∧ Int.toNat (x12.3 - x12.4) < Int.toNat (x5.3 - x5.4) ∧ (0 = 0 ∧ 0 = 0 ∧ 0 = 0 ∧ x12.3
= x5.3 ∧ x12.4 = x11 ∧ True) ∧ (ZF a.5 ∧ (True ∧ (x12.5.1 = true ∧ x12.5.2 = 0 ∧ x12.5.3 = 0) ∧ (0 = 0 ∧ 0 = 0) ∧ (0 = 0 ∧ 0 = 0) ∧ (0 : Int) = 0 ∧ (0 : Int) = 0 ∧ (0 : Int) = 0 ∧
(0 : Int) = 0 ∧ (0 : Int) = 0 ∧ True) ∧ (True ∧ Z4 a ∧ x12.1 = x8.1 ∧ x12.2 = x8.2 ∧ True) ∧ (FlatL x12.5.4 ∧ True) ∧ (True ∧ (0 = 0 ∧ 0 = 0) ∧ (0 = 0 ∧ 0 = 0) ∧ (0 = 0 ∧ 0 = 0) ∧
(0 : Int) = 0 ∧ (0 : Int) = 0 ∧ (0 : Int) = 0 ∧ (0 : Int) = 0 ∧ (0 : Int) = 0 ∧ True) ∧ True) ∧ True) ∧ (1 ≠ 0 → Few 1 4 ∧ ∀ x14, x14 = IntKind.wrap .u64 (x5.4 + (1 : Int)) → ∃
(x15 : PL), (((0 ≤ x15.4 ∧ x15.4 ≤ x15.3) ∧ x15.3 = (dvC xs).3 ∧ 0 ≤ x15.1 ∧ x15.1 ≤ (↑a.3 : Int)) ∧ ∃ (x16 : List Int), LC x15.5 x16 ∧ (↑(List.length x16) : Int) = x15.4 ∧ dWC xs
= LW.mk (wsC xs (Int.toNat (x15.3 - x15.4)) x15.1 x15.2).1 (wsC xs (Int.toNat (x15.3 - x15.4)) x15.1 x15.2).2 (x16 ++ (wsC xs (Int.toNat (x15.3 - x15.4)) x15.1 x15.2).3)) ∧
Int.toNat (x15.3 - x15.4) < Int.toNat (x5.3 - x5.4) ∧ (0 = 0 ∧ 0 = 0 ∧ 0 = 0 ∧ x15.3 = x5.3 ∧ x15.4 = x14 ∧ True) ∧ (ZF a.5 ∧ (True ∧ (x15.5.1 = false ∧ 0 = 0 ∧ x15.5.2 = 1 ∧
x15.5.3 = 1) ∧ (0 = 0 ∧ 0 = 0) ∧ (0 = 0 ∧ 0 = 0) ∧ (0 : Int) = 0 ∧ (0 : Int) = 0 ∧ (0 : Int) = 0 ∧ (0 : Int) = 0 ∧ (0 : Int) = 0 ∧ True) ∧ (True ∧ Z4 a ∧ x15.1 = x8.1 ∧ x15.2 =
x8.2 ∧ True) ∧ (x15.5.3 = 1 ∧ FlatL x15.5.4 ∧ x15.5.4 = x10) ∧ (True ∧ (0 = 0 ∧ 0 = 0) ∧ (0 = 0 ∧ 0 = 0) ∧ (0 = 0 ∧ 0 = 0) ∧ (0 : Int) = 0 ∧ (0 : Int) = 0 ∧ (0 : Int) = 0 ∧ (0 :
Int) = 0 ∧ (0 : Int) = 0 ∧ True) ∧ True) ∧ True)) ∧ (x5.5.1 = false → 1 ≤ List.length [Value.iface 1000000007 (Value.int IntKind.i32 x8.3)] ∧ ∀ (x17 : List Value), x17 = lwin
[Value.iface 1000000007 (Value.int IntKind.i32 x8.3)] 0 1 → (0 = 0 ∧ List.length x5.5.4 = x5.5.2 * 1 ∧ x5.5.3 = x5.5.3 ∧ x5.5.2 ≤ x5.5.3 ∧ Few (x5.5.2 + 1) 4 ∧ lall oneK x17 =
true) ∧ ∀ (x18 x19 : Nat), x18 = x5.5.2 + 1 → (x19 = if x18 ≤ SN.k (PL.v x5) then x5.5.3 else x18) → ∀ x20, x20 = IntKind.wrap .u64 (x5.4 + (1 : Int)) → ∃ (x21 : PL), (((0 ≤ x21.4
∧ x21.4 ≤ x21.3) ∧ x21.3 = (dvC xs).3 ∧ 0 ≤ x21.1 ∧ x21.1 ≤ (↑a.3 : Int)) ∧ ∃ (x22 : List Int), LC x21.5 x22 ∧ (↑(List.length x22) : Int) = x21.4 ∧ dWC xs = LW.mk (wsC xs
(Int.toNat (x21.3 - x21.4)) x21.1 x21.2).1 (wsC xs (Int.toNat (x21.3 - x21.4)) x21.1 x21.2).2 (x22 ++ (wsC xs (Int.toNat (x21.3 - x21.4)) x21.1 x21.2).3)) ∧ Int.toNat (x21.3 -
x21.4) < Int.toNat (x5.3 - x5.4) ∧ (0 = 0 ∧ 0 = 0 ∧ 0 = 0 ∧ x21.3 = x5.3 ∧ x21.4 = x20 ∧ True) ∧ (ZF a.5 ∧ (True ∧ (x21.5.1 = false ∧ 0 = 0 ∧ x21.5.2 = x18 ∧ x21.5.3 = x19) ∧ (0 =
0 ∧ 0 = 0) ∧ (0 = 0 ∧ 0 = 0) ∧ (0 : Int) = 0 ∧ (0 : Int) = 0 ∧ (0 : Int) = 0 ∧ (0 : Int) = 0 ∧ (0 : Int) = 0 ∧ True) ∧ (True ∧ Z4 a ∧ x21.1 = x8.1 ∧ x21.2 = x8.2 ∧ True) ∧ (x21.5.3
= x19 ∧ FlatL x21.5.4 ∧ x21.5.4 = x5.5.4 ++ x17) ∧ (True ∧ (0 = 0 ∧ 0 = 0) ∧ (0 = 0 ∧ 0 = 0) ∧ (0 = 0 ∧ 0 = 0) ∧ (0 : Int) = 0 ∧ (0 : Int) = 0 ∧ (0 : Int) = 0 ∧ (0 : Int) = 0 ∧ (0
: Int) = 0 ∧ True) ∧ True) ∧ True)) ∧ True) ∧ (¬x5.2 = 0 → ∃ (x23 : PL), ((0 ≤ x23.1 ∧ x23.1 ≤ (↑a.3 : Int)) ∧ LC x23.5 (dWC xs).3 ∧ x23.1 = (dWC xs).1 ∧ x23.2 = (dWC xs).2) ∧ (0 =
0 ∧ 0 = 0 ∧ 0 = 0 ∧ True) ∧ (ZF a.5 ∧ (True ∧ (x23.5.1 = x5.5.1 ∧ 0 = 0 ∧ x23.5.2 = x5.5.2 ∧ x23.5.3 = x5.5.3) ∧ (0 = 0 ∧ 0 = 0) ∧ (0 = 0 ∧ 0 = 0) ∧ (0 : Int) = 0 ∧ (0 : Int) = 0 ∧
(0 : Int) = 0 ∧ (0 : Int) = 0 ∧ (0 : Int) = 0 ∧ True) ∧ (True ∧ Z4 a ∧ x23.1 = x5.1 ∧ x23.2 = x5.2 ∧ True) ∧ (x23.5.3 = x5.5.3 ∧ FlatL x23.5.4 ∧ x23.5.4 = x5.5.4) ∧ (True ∧ (0 = 0
∧ 0 = 0) ∧ (0 = 0 ∧ 0 = 0) ∧ (0 = 0 ∧ 0 = 0) ∧ (0 : Int) = 0 ∧ (0 : Int) = 0 ∧ (0 : Int) = 0 ∧ (0 : Int) = 0 ∧ (0 : Int) = 0 ∧ True) ∧ True) ∧ True)) ∧ (¬x5.4 < x5.3 → ∃ (x24 :
PL), ((0 ≤ x24.1 ∧ x24.1 ≤ (↑a.3 : Int)) ∧ LC x24.5 (dWC xs).3 ∧ x24.1 = (dWC xs).1 ∧ x24.2 = (dWC xs).2) ∧ (0 = 0 ∧ 0 = 0 ∧ 0 = 0 ∧ True) ∧ (ZF a.5 ∧ (True ∧ (x24.5.1 = x5.5.1 ∧ 0
= 0 ∧ x24.5.2 = x5.5.2 ∧ x24.5.3 = x5.5.3) ∧ (0 = 0 ∧ 0 = 0) ∧ (0 = 0 ∧ 0 = 0) ∧ (0 : Int) = 0 ∧ (0 : Int) = 0 ∧ (0 : Int) = 0 ∧ (0 : Int) = 0 ∧ (0 : Int) = 0 ∧ True) ∧ (True ∧ Z4
a ∧ x24.1 = x5.1 ∧ x24.2 = x5.2 ∧ True) ∧ (x24.5.3 = x5.5.3 ∧ FlatL x24.5.4 ∧ x24.5.4 = x5.5.4) ∧ (True ∧ (0 = 0 ∧ 0 = 0) ∧ (0 = 0 ∧ 0 = 0) ∧ (0 = 0 ∧ 0 = 0) ∧ (0 : Int) = 0 ∧ (0 :
Int) = 0 ∧ (0 : Int) = 0 ∧ (0 : Int) = 0 ∧ (0 : Int) = 0 ∧ True) ∧ True) ∧ True)) ∧ ∀ (x25 : PL), (0 ≤ x25.1 ∧ x25.1 ≤ (↑a.3 : Int)) ∧ LC x25.5 (dWC xs).3 ∧ x25.1 = (dWC xs).1 ∧
x25.2 = (dWC xs).2 → (True ∧ (∃ (x26 : List Int), RI (RA.mk (SA.mk a.1 a.2 a.3 a.4 a.5) x25.1 x25.2 (8 : Int)) x26) ∧ (x25.2 = 0 → x25.1 < (↑a.3 : Int)) ∧ a.3 ≤ 1000000) ∧ (((Z4 a
∧ x25.1 = x25.1 ∧ x25.2 = x25.2 ∧ True) ∧ Int.ofNat 8 = (8 : Int) ∧ True) ∧ ZF a.5 ∧ True) ∧ (∀ (x27 : RR), (∀ (x28 : List Int), RI (RA.mk (SA.mk a.1 a.2 a.3 a.4 a.5) x25.1 x25.2
(8 : Int)) x28 → x27 = rdC x28 x25.1 x25.2 (Int.ofNat 8)) → (∃ (x29 : PL), (((0 ≤ x29.4 ∧ x29.4 ≤ x29.3) ∧ x29.3 = (dgC xs).3 ∧ 0 ≤ x29.1 ∧ x29.1 ≤ (↑a.3 : Int)) ∧ LC x29.5 (dWC
xs).3 ∧ ∃ (x30 : List Int), LF Value.bool 1 x29.6 (goneL x30) ∧ (↑(List.length x30) : Int) = x29.4 ∧ dGC xs = LN.mk (rsC xs (1 : Int) (Int.toNat (x29.3 - x29.4)) x29.1 x29.2).1
(rsC xs (1 : Int) (Int.toNat (x29.3 - x29.4)) x29.1 x29.2).2 (x30 ++ (rsC xs (1 : Int) (Int.toNat (x29.3 - x29.4)) x29.1 x29.2).3)) ∧ ((0 = 0 ∧ 0 = 0 ∧ 0 = 0 ∧ x29.3 = x27.3 ∧
x29.4 = 0 ∧ True) ∧ (ZF a.5 ∧ (True ∧ (x29.5.1 = x25.5.1 ∧ 0 = 0 ∧ x29.5.2 = x25.5.2 ∧ x29.5.3 = x25.5.3) ∧ (x29.6.1 = true ∧ x29.6.2 = 0 ∧ x29.6.3 = 0) ∧ (0 = 0 ∧ 0 = 0) ∧ (0 :
Int) = 0 ∧ (0 : Int) = 0 ∧ (0 : Int) = 0 ∧ (0 : Int) = 0 ∧ (0 : Int) = 0 ∧ True) ∧ (True ∧ Z4 a ∧ x29.1 = x27.1 ∧ x29.2 = x27.2 ∧ True) ∧ (x29.5.3 = x25.5.3 ∧ FlatL x29.5.4 ∧
x29.5.4 = x25.5.4) ∧ (True ∧ (0 = 0 ∧ 0 = 0) ∧ (0 = 0 ∧ 0 = 0) ∧ (0 = 0 ∧ 0 = 0) ∧ (0 : Int) = 0 ∧ (0 : Int) = 0 ∧ (0 : Int) = 0 ∧ (0 : Int) = 0 ∧ (0 : Int) = 0 ∧ True) ∧ (FlatL
x29.6.4 ∧ True) ∧ True) ∧ True) ∧ ∀ (x31 : PL), (((0 ≤ x31.4 ∧ x31.4 ≤ x31.3) ∧ x31.3 = (dgC xs).3 ∧ 0 ≤ x31.1 ∧ x31.1 ≤ (↑a.3 : Int)) ∧ LC x31.5 (dWC xs).3 ∧ ∃ (x32 : List Int),
LF Value.bool 1 x31.6 (goneL x32) ∧ (↑(List.length x32) : Int) = x31.4 ∧ dGC xs = LN.mk (rsC xs (1 : Int) (Int.toNat (x31.3 - x31.4)) x31.1 x31.2).1 (rsC xs (1 : Int) (Int.toNat
(x31.3 - x31.4)) x31.1 x31.2).2 (x32 ++ (rsC xs (1 : Int) (Int.toNat (x31.3 - x31.4)) x31.1 x31.2).3)) → (x31.4 < x31.3 → (x31.2 = 0 → (True ∧ (∃ (x33 : List Int), RI (RA.mk (SA.mk
a.1 a.2 a.3 a.4 a.5) x31.1 x31.2 (1 : Int)) x33) ∧ (x31.2 = 0 → x31.1 < (↑a.3 : Int)) ∧ a.3 ≤ 1000000) ∧ (((Z4 a ∧ x31.1 = x31.1 ∧ x31.2 = x31.2 ∧ True) ∧ Int.ofNat 1 = (1 : Int) ∧
True) ∧ ZF a.5 ∧ True) ∧ (∀ (x34 : RR), (∀ (x35 : List Int), RI (RA.mk (SA.mk a.1 a.2 a.3 a.4 a.5) x31.1 x31.2 (1 : Int)) x35 → x34 = rdC x35 x31.1 x31.2 (Int.ofNat 1)) → (x34.3 =
1 → (x31.6.1 = true → 1 ≤ 1 ∧ ∀ (x36 : List Value), x36 = lwin [Value.bool true] 0 1 → (1 = 0 → ∀ x37, x37 = IntKind.wrap .u64 (x31.4 + (1 : Int)) → ∃ (x38 : PL), (((0 ≤ x38.4 ∧
x38.4 ≤ x38.3) ∧ x38.3 = (dgC xs).3 ∧ 0 ≤ x38.1 ∧ x38.1 ≤ (↑a.3 : Int)) ∧ LC x38.5 (dWC xs).3 ∧ ∃ (x39 : List Int), LF Value.bool 1 x38.6 (goneL x39) ∧ (↑(List.length x39) : Int) =
x38.4 ∧ dGC xs = LN.mk (rsC xs (1 : Int) (Int.toNat (x38.3 - x38.4)) x38.1 x38.2).1 (rsC xs (1 : Int) (Int.toNat (x38.3 - x38.4)) x38.1 x38.2).2 (x39 ++ (rsC xs (1 : Int)
(Int.toNat (x38.3 - x38.4)) x38.1 x38.2).3)) ∧ Int.toNat (x38.3 - x38.4) < Int.toNat (x31.3 - x31.4) ∧ (0 = 0 ∧ 0 = 0 ∧ 0 = 0 ∧ x38.3 = x31.3 ∧ x38.4 = x37 ∧ True) ∧ (ZF a.5 ∧
(True ∧ (x38.5.1 = x31.5.1 ∧ 0 = 0 ∧ x38.5.2 = x31.5.2 ∧ x38.5.3 = x31.5.3) ∧ (x38.6.1 = true ∧ x38.6.2 = 0 ∧ x38.6.3 = 0) ∧ (0 = 0 ∧ 0 = 0) ∧ (0 : Int) = 0 ∧ (0 : Int) = 0 ∧ (0 :
Int) = 0 ∧ (0 : Int) = 0 ∧ (0 : Int) = 0 ∧ True) ∧ (True ∧ Z4 a ∧ x38.1 = x34.1 ∧ x38.2 = x34.2 ∧ True) ∧ (x38.5.3 = x31.5.3 ∧ FlatL x38.5.4 ∧ x38.5.4 = x31.5.4) ∧ (True ∧ (0 = 0 ∧
0 = 0) ∧ (0 = 0 ∧ 0 = 0) ∧ (0 = 0 ∧ 0 = 0) ∧ (0 : Int) = 0 ∧ (0 : Int) = 0 ∧ (0 : Int) = 0 ∧ (0 : Int) = 0 ∧ (0 : Int) = 0 ∧ True) ∧ (FlatL x38.6.4 ∧ True) ∧ True) ∧ True) ∧ (1 ≠ 0
→ Few 1 1 ∧ ∀ x40, x40 = IntKind.wrap .u64 (x31.4 + (1 : Int)) → ∃ (x41 : PL), (((0 ≤ x41.4 ∧ x41.4 ≤ x41.3) ∧ x41.3 = (dgC xs).3 ∧ 0 ≤ x41.1 ∧ x41.1 ≤ (↑a.3 : Int)) ∧ LC x41.5
(dWC xs).3 ∧ ∃ (x42 : List Int), LF Value.bool 1 x41.6 (goneL x42) ∧ (↑(List.length x42) : Int) = x41.4 ∧ dGC xs = LN.mk (rsC xs (1 : Int) (Int.toNat (x41.3 - x41.4)) x41.1
x41.2).1 (rsC xs (1 : Int) (Int.toNat (x41.3 - x41.4)) x41.1 x41.2).2 (x42 ++ (rsC xs (1 : Int) (Int.toNat (x41.3 - x41.4)) x41.1 x41.2).3)) ∧ Int.toNat (x41.3 - x41.4) < Int.toNat
(x31.3 - x31.4) ∧ (0 = 0 ∧ 0 = 0 ∧ 0 = 0 ∧ x41.3 = x31.3 ∧ x41.4 = x40 ∧ True) ∧ (ZF a.5 ∧ (True ∧ (x41.5.1 = x31.5.1 ∧ 0 = 0 ∧ x41.5.2 = x31.5.2 ∧ x41.5.3 = x31.5.3) ∧ (x41.6.1 =
false ∧ 0 = 0 ∧ x41.6.2 = 1 ∧ x41.6.3 = 1) ∧ (0 = 0 ∧ 0 = 0) ∧ (0 : Int) = 0 ∧ (0 : Int) = 0 ∧ (0 : Int) = 0 ∧ (0 : Int) = 0 ∧ (0 : Int) = 0 ∧ True) ∧ (True ∧ Z4 a ∧ x41.1 = x34.1
∧ x41.2 = x34.2 ∧ True) ∧ (x41.5.3 = x31.5.3 ∧ FlatL x41.5.4 ∧ x41.5.4 = x31.5.4) ∧ (True ∧ (0 = 0 ∧ 0 = 0) ∧ (0 = 0 ∧ 0 = 0) ∧ (0 = 0 ∧ 0 = 0) ∧ (0 : Int) = 0 ∧ (0 : Int) = 0 ∧ (0
: Int) = 0 ∧ (0 : Int) = 0 ∧ (0 : Int) = 0 ∧ True) ∧ (x41.6.3 = 1 ∧ FlatL x41.6.4 ∧ x41.6.4 = x36) ∧ True) ∧ True)) ∧ (x31.6.1 = false → 1 ≤ 1 ∧ ∀ (x43 : List Value), x43 = lwin
[Value.bool true] 0 1 → (0 = 0 ∧ List.length x31.6.4 = x31.6.2 * 1 ∧ x31.6.3 = x31.6.3 ∧ x31.6.2 ≤ x31.6.3 ∧ Few (x31.6.2 + 1) 1 ∧ lall oneK x43 = true) ∧ ∀ (x44 x45 : Nat), x44 =
x31.6.2 + 1 → (x45 = if x44 ≤ SN.k (PL.g x31) then x31.6.3 else x44) → ∀ x46, x46 = IntKind.wrap .u64 (x31.4 + (1 : Int)) → ∃ (x47 : PL), (((0 ≤ x47.4 ∧ x47.4 ≤ x47.3) ∧ x47.3 =
(dgC xs).3 ∧ 0 ≤ x47.1 ∧ x47.1 ≤ (↑a.3 : Int)) ∧ LC x47.5 (dWC xs).3 ∧ ∃ (x48 : List Int), LF Value.bool 1 x47.6 (goneL x48) ∧ (↑(List.length x48) : Int) = x47.4 ∧ dGC xs = LN.mk
(rsC xs (1 : Int) (Int.toNat (x47.3 - x47.4)) x47.1 x47.2).1 (rsC xs (1 : Int) (Int.toNat (x47.3 - x47.4)) x47.1 x47.2).2 (x48 ++ (rsC xs (1 : Int) (Int.toNat (x47.3 - x47.4))
x47.1 x47.2).3)) ∧ Int.toNat (x47.3 - x47.4) < Int.toNat (x31.3 - x31.4) ∧ (0 = 0 ∧ 0 = 0 ∧ 0 = 0 ∧ x47.3 = x31.3 ∧ x47.4 = x46 ∧ True) ∧ (ZF a.5 ∧ (True ∧ (x47.5.1 = x31.5.1 ∧ 0 =
0 ∧ x47.5.2 = x31.5.2 ∧ x47.5.3 = x31.5.3) ∧ (x47.6.1 = false ∧ 0 = 0 ∧ x47.6.2 = x44 ∧ x47.6.3 = x45) ∧ (0 = 0 ∧ 0 = 0) ∧ (0 : Int) = 0 ∧ (0 : Int) = 0 ∧ (0 : Int) = 0 ∧ (0 : Int)
= 0 ∧ (0 : Int) = 0 ∧ True) ∧ (True ∧ Z4 a ∧ x47.1 = x34.1 ∧ x47.2 = x34.2 ∧ True) ∧ (x47.5.3 = x31.5.3 ∧ FlatL x47.5.4 ∧ x47.5.4 = x31.5.4) ∧ (True ∧ (0 = 0 ∧ 0 = 0) ∧ (0 = 0 ∧ 0
= 0) ∧ (0 = 0 ∧ 0 = 0) ∧ (0 : Int) = 0 ∧ (0 : Int) = 0 ∧ (0 : Int) = 0 ∧ (0 : Int) = 0 ∧ (0 : Int) = 0 ∧ True) ∧ (x47.6.3 = x45 ∧ FlatL x47.6.4 ∧ x47.6.4 = x31.6.4 ++ x43) ∧ True)
∧ True)) ∧ (¬x34.3 = 1 → (x31.6.1 = true → 1 ≤ 1 ∧ ∀ (x49 : List Value), x49 = lwin [Value.bool false] 0 1 → (1 = 0 → ∀ x50, x50 = IntKind.wrap .u64 (x31.4 + (1 : Int)) → ∃ (x51 :
PL), (((0 ≤ x51.4 ∧ x51.4 ≤ x51.3) ∧ x51.3 = (dgC xs).3 ∧ 0 ≤ x51.1 ∧ x51.1 ≤ (↑a.3 : Int)) ∧ LC x51.5 (dWC xs).3 ∧ ∃ (x52 : List Int), LF Value.bool 1 x51.6 (goneL x52) ∧
(↑(List.length x52) : Int) = x51.4 ∧ dGC xs = LN.mk (rsC xs (1 : Int) (Int.toNat (x51.3 - x51.4)) x51.1 x51.2).1 (rsC xs (1 : Int) (Int.toNat (x51.3 - x51.4)) x51.1 x51.2).2 (x52
++ (rsC xs (1 : Int) (Int.toNat (x51.3 - x51.4)) x51.1 x51.2).3)) ∧ Int.toNat (x51.3 - x51.4) < Int.toNat (x31.3 - x31.4) ∧ (0 = 0 ∧ 0 = 0 ∧ 0 = 0 ∧ x51.3 = x31.3 ∧ x51.4 = x50 ∧
True) ∧ (ZF a.5 ∧ (True ∧ (x51.5.1 = x31.5.1 ∧ 0 = 0 ∧ x51.5.2 = x31.5.2 ∧ x51.5.3 = x31.5.3) ∧ (x51.6.1 = true ∧ x51.6.2 = 0 ∧ x51.6.3 = 0) ∧ (0 = 0 ∧ 0 = 0) ∧ (0 : Int) = 0 ∧ (0
: Int) = 0 ∧ (0 : Int) = 0 ∧ (0 : Int) = 0 ∧ (0 : Int) = 0 ∧ True) ∧ (True ∧ Z4 a ∧ x51.1 = x34.1 ∧ x51.2 = x34.2 ∧ True) ∧ (x51.5.3 = x31.5.3 ∧ FlatL x51.5.4 ∧ x51.5.4 = x31.5.4)
∧ (True ∧ (0 = 0 ∧ 0 = 0) ∧ (0 = 0 ∧ 0 = 0) ∧ (0 = 0 ∧ 0 = 0) ∧ (0 : Int) = 0 ∧ (0 : Int) = 0 ∧ (0 : Int) = 0 ∧ (0 : Int) = 0 ∧ (0 : Int) = 0 ∧ True) ∧ (FlatL x51.6.4 ∧ True) ∧
True) ∧ True) ∧ (1 ≠ 0 → Few 1 1 ∧ ∀ x53, x53 = IntKind.wrap .u64 (x31.4 + (1 : Int)) → ∃ (x54 : PL), (((0 ≤ x54.4 ∧ x54.4 ≤ x54.3) ∧ x54.3 = (dgC xs).3 ∧ 0 ≤ x54.1 ∧ x54.1 ≤ (↑a.3
: Int)) ∧ LC x54.5 (dWC xs).3 ∧ ∃ (x55 : List Int), LF Value.bool 1 x54.6 (goneL x55) ∧ (↑(List.length x55) : Int) = x54.4 ∧ dGC xs = LN.mk (rsC xs (1 : Int) (Int.toNat (x54.3 -
x54.4)) x54.1 x54.2).1 (rsC xs (1 : Int) (Int.toNat (x54.3 - x54.4)) x54.1 x54.2).2 (x55 ++ (rsC xs (1 : Int) (Int.toNat (x54.3 - x54.4)) x54.1 x54.2).3)) ∧ Int.toNat (x54.3 -
x54.4) < Int.toNat (x31.3 - x31.4) ∧ (0 = 0 ∧ 0 = 0 ∧ 0 = 0 ∧ x54.3 = x31.3 ∧ x54.4 = x53 ∧ True) ∧ (ZF a.5 ∧ (True ∧ (x54.5.1 = x31.5.1 ∧ 0 = 0 ∧ x54.5.2 = x31.5.2 ∧ x54.5.3 =
x31.5.3) ∧ (x54.6.1 = false ∧ 0 = 0 ∧ x54.6.2 = 1 ∧ x54.6.3 = 1) ∧ (0 = 0 ∧ 0 = 0) ∧ (0 : Int) = 0 ∧ (0 : Int) = 0 ∧ (0 : Int) = 0 ∧ (0 : Int) = 0 ∧ (0 : Int) = 0 ∧ True) ∧ (True ∧
Z4 a ∧ x54.1 = x34.1 ∧ x54.2 = x34.2 ∧ True) ∧ (x54.5.3 = x31.5.3 ∧ FlatL x54.5.4 ∧ x54.5.4 = x31.5.4) ∧ (True ∧ (0 = 0 ∧ 0 = 0) ∧ (0 = 0 ∧ 0 = 0) ∧ (0 = 0 ∧ 0 = 0) ∧ (0 : Int) = 0
∧ (0 : Int) = 0 ∧ (0 : Int) = 0 ∧ (0 : Int) = 0 ∧ (0 : Int) = 0 ∧ True) ∧ (x54.6.3 = 1 ∧ FlatL x54.6.4 ∧ x54.6.4 = x49) ∧ True) ∧ True)) ∧ (x31.6.1 = false → 1 ≤ 1 ∧ ∀ (x56 : List
Value), x56 = lwin [Value.bool false] 0 1 → (0 = 0 ∧ List.length x31.6.4 = x31.6.2 * 1 ∧ x31.6.3 = x31.6.3 ∧ x31.6.2 ≤ x31.6.3 ∧ Few (x31.6.2 + 1) 1 ∧ lall oneK x56 = true) ∧ ∀
(x57 x58 : Nat), x57 = x31.6.2 + 1 → (x58 = if x57 ≤ SN.k (PL.g x31) then x31.6.3 else x57) → ∀ x59, x59 = IntKind.wrap .u64 (x31.4 + (1 : Int)) → ∃ (x60 : PL), (((0 ≤ x60.4 ∧
x60.4 ≤ x60.3) ∧ x60.3 = (dgC xs).3 ∧ 0 ≤ x60.1 ∧ x60.1 ≤ (↑a.3 : Int)) ∧ LC x60.5 (dWC xs).3 ∧ ∃ (x61 : List Int), LF Value.bool 1 x60.6 (goneL x61) ∧ (↑(List.length x61) : Int) =
x60.4 ∧ dGC xs = LN.mk (rsC xs (1 : Int) (Int.toNat (x60.3 - x60.4)) x60.1 x60.2).1 (rsC xs (1 : Int) (Int.toNat (x60.3 - x60.4)) x60.1 x60.2).2 (x61 ++ (rsC xs (1 : Int)
(Int.toNat (x60.3 - x60.4)) x60.1 x60.2).3)) ∧ Int.toNat (x60.3 - x60.4) < Int.toNat (x31.3 - x31.4) ∧ (0 = 0 ∧ 0 = 0 ∧ 0 = 0 ∧ x60.3 = x31.3 ∧ x60.4 = x59 ∧ True) ∧ (ZF a.5 ∧
(True ∧ (x60.5.1 = x31.5.1 ∧ 0 = 0 ∧ x60.5.2 = x31.5.2 ∧ x60.5.3 = x31.5.3) ∧ (x60.6.1 = false ∧ 0 = 0 ∧ x60.6.2 = x57 ∧ x60.6.3 = x58) ∧ (0 = 0 ∧ 0 = 0) ∧ (0 : Int) = 0 ∧ (0 :
Int) = 0 ∧ (0 : Int) = 0 ∧ (0 : Int) = 0 ∧ (0 : Int) = 0 ∧ True) ∧ (True ∧ Z4 a ∧ x60.1 = x34.1 ∧ x60.2 = x34.2 ∧ True) ∧ (x60.5.3 = x31.5.3 ∧ FlatL x60.5.4 ∧ x60.5.4 = x31.5.4) ∧
(True ∧ (0 = 0 ∧ 0 = 0) ∧ (0 = 0 ∧ 0 = 0) ∧ (0 = 0 ∧ 0 = 0) ∧ (0 : Int) = 0 ∧ (0 : Int) = 0 ∧ (0 : Int) = 0 ∧ (0 : Int) = 0 ∧ (0 : Int) = 0 ∧ True) ∧ (x60.6.3 = x58 ∧ FlatL x60.6.4
∧ x60.6.4 = x31.6.4 ++ x56) ∧ True) ∧ True))) ∧ True) ∧ (¬x31.2 = 0 → ∃ (x62 : PL), ((0 ≤ x62.1 ∧ x62.1 ≤ (↑a.3 : Int)) ∧ LC x62.5 (dWC xs).3 ∧ LF Value.bool 1 x62.6 (goneL (dGC
xs).3) ∧ x62.1 = (dGC xs).1 ∧ x62.2 = (dGC xs).2) ∧ (0 = 0 ∧ 0 = 0 ∧ 0 = 0 ∧ True) ∧ (ZF a.5 ∧ (True ∧ (x62.5.1 = x31.5.1 ∧ 0 = 0 ∧ x62.5.2 = x31.5.2 ∧ x62.5.3 = x31.5.3) ∧
(x62.6.1 = x31.6.1 ∧ 0 = 0 ∧ x62.6.2 = x31.6.2 ∧ x62.6.3 = x31.6.3) ∧ (0 = 0 ∧ 0 = 0) ∧ (0 : Int) = 0 ∧ (0 : Int) = 0 ∧ (0 : Int) = 0 ∧ (0 : Int) = 0 ∧ (0 : Int) = 0 ∧ True) ∧
(True ∧ Z4 a ∧ x62.1 = x31.1 ∧ x62.2 = x31.2 ∧ True) ∧ (x62.5.3 = x31.5.3 ∧ FlatL x62.5.4 ∧ x62.5.4 = x31.5.4) ∧ (True ∧ (0 = 0 ∧ 0 = 0) ∧ (0 = 0 ∧ 0 = 0) ∧ (0 = 0 ∧ 0 = 0) ∧ (0 :
Int) = 0 ∧ (0 : Int) = 0 ∧ (0 : Int) = 0 ∧ (0 : Int) = 0 ∧ (0 : Int) = 0 ∧ True) ∧ (x62.6.3 = x31.6.3 ∧ FlatL x62.6.4 ∧ x62.6.4 = x31.6.4) ∧ True) ∧ True)) ∧ (¬x31.4 < x31.3 → ∃
(x63 : PL), ((0 ≤ x63.1 ∧ x63.1 ≤ (↑a.3 : Int)) ∧ LC x63.5 (dWC xs).3 ∧ LF Value.bool 1 x63.6 (goneL (dGC xs).3) ∧ x63.1 = (dGC xs).1 ∧ x63.2 = (dGC xs).2) ∧ (0 = 0 ∧ 0 = 0 ∧ 0 = 0
∧ True) ∧ (ZF a.5 ∧ (True ∧ (x63.5.1 = x31.5.1 ∧ 0 = 0 ∧ x63.5.2 = x31.5.2 ∧ x63.5.3 = x31.5.3) ∧ (x63.6.1 = x31.6.1 ∧ 0 = 0 ∧ x63.6.2 = x31.6.2 ∧ x63.6.3 = x31.6.3) ∧ (0 = 0 ∧ 0 =
0) ∧ (0 : Int) = 0 ∧ (0 : Int) = 0 ∧ (0 : Int) = 0 ∧ (0 : Int) = 0 ∧ (0 : Int) = 0 ∧ True) ∧ (True ∧ Z4 a ∧ x63.1 = x31.1 ∧ x63.2 = x31.2 ∧ True) ∧ (x63.5.3 = x31.5.3 ∧ FlatL
x63.5.4 ∧ x63.5.4 = x31.5.4) ∧ (True ∧ (0 = 0 ∧ 0 = 0) ∧ (0 = 0 ∧ 0 = 0) ∧ (0 = 0 ∧ 0 = 0) ∧ (0 : Int) = 0 ∧ (0 : Int) = 0 ∧ (0 : Int) = 0 ∧ (0 : Int) = 0 ∧ (0 : Int) = 0 ∧ True) ∧
(x63.6.3 = x31.6.3 ∧ FlatL x63.6.4 ∧ x63.6.4 = x31.6.4) ∧ True) ∧ True)) ∧ ∀ (x64 : PL), (0 ≤ x64.1 ∧ x64.1 ≤ (↑a.3 : Int)) ∧ LC x64.5 (dWC xs).3 ∧ LF Value.bool 1 x64.6 (goneL
(dGC xs).3) ∧ x64.1 = (dGC xs).1 ∧ x64.2 = (dGC xs).2 → (True ∧ (∃ (x65 : List Int), RI (RA.mk (SA.mk a.1 a.2 a.3 a.4 a.5) x64.1 x64.2 (8 : Int)) x65) ∧ (x64.2 = 0 → x64.1 < (↑a.3
: Int)) ∧ a.3 ≤ 1000000) ∧ (((Z4 a ∧ x64.1 = x64.1 ∧ x64.2 = x64.2 ∧ True) ∧ Int.ofNat 8 = (8 : Int) ∧ True) ∧ ZF a.5 ∧ True) ∧ (∀ (x66 : RR), (∀ (x67 : List Int), RI (RA.mk (SA.mk
a.1 a.2 a.3 a.4 a.5) x64.1 x64.2 (8 : Int)) x67 → x66 = rdC x67 x64.1 x64.2 (Int.ofNat 8)) → (∃ (x68 : PL), (((0 ≤ x68.4 ∧ x68.4 ≤ x68.3) ∧ x68.3 = (dtC xs).3 ∧ 0 ≤ x68.1 ∧ x68.1 ≤
(↑a.3 : Int)) ∧ LC x68.5 (dWC xs).3 ∧ LF Value.bool 1 x68.6 (goneL (dGC xs).3) ∧ ∃ (x69 : List Int), LF (Value.int IntKind.u8) 8 x68.7 (tipsL x69) ∧ (↑(List.length x69) : Int) =
x68.4 ∧ dTC xs = LN.mk (rsC xs (18446744073709551615 : Int) (Int.toNat (x68.3 - x68.4)) x68.1 x68.2).1 (rsC xs (18446744073709551615 : Int) (Int.toNat (x68.3 - x68.4)) x68.1
x68.2).2 (x69 ++ (rsC xs (18446744073709551615 : Int) (Int.toNat (x68.3 - x68.4)) x68.1 x68.2).3)) ∧ ((0 = 0 ∧ 0 = 0 ∧ 0 = 0 ∧ x68.3 = x66.3 ∧ x68.4 = 0 ∧ True) ∧ (ZF a.5 ∧ (True ∧
(x68.5.1 = x64.5.1 ∧ 0 = 0 ∧ x68.5.2 = x64.5.2 ∧ x68.5.3 = x64.5.3) ∧ (x68.6.1 = x64.6.1 ∧ 0 = 0 ∧ x68.6.2 = x64.6.2 ∧ x68.6.3 = x64.6.3) ∧ (x68.7.1 = true ∧ x68.7.2 = 0 ∧ x68.7.3
= 0) ∧ (0 : Int) = 0 ∧ (0 : Int) = 0 ∧ (0 : Int) = 0 ∧ (0 : Int) = 0 ∧ (0 : Int) = 0 ∧ True) ∧ (True ∧ Z4 a ∧ x68.1 = x66.1 ∧ x68.2 = x66.2 ∧ True) ∧ (x68.5.3 = x64.5.3 ∧ FlatL
x68.5.4 ∧ x68.5.4 = x64.5.4) ∧ (True ∧ (0 = 0 ∧ 0 = 0) ∧ (0 = 0 ∧ 0 = 0) ∧ (0 = 0 ∧ 0 = 0) ∧ (0 : Int) = 0 ∧ (0 : Int) = 0 ∧ (0 : Int) = 0 ∧ (0 : Int) = 0 ∧ (0 : Int) = 0 ∧ True) ∧
(x68.6.3 = x64.6.3 ∧ FlatL x68.6.4 ∧ x68.6.4 = x64.6.4) ∧ (FlatL x68.7.4 ∧ True) ∧ True) ∧ True) ∧ ∀ (x70 : PL), (((0 ≤ x70.4 ∧ x70.4 ≤ x70.3) ∧ x70.3 = (dtC xs).3 ∧ 0 ≤ x70.1 ∧
x70.1 ≤ (↑a.3 : Int)) ∧ LC x70.5 (dWC xs).3 ∧ LF Value.bool 1 x70.6 (goneL (dGC xs).3) ∧ ∃ (x71 : List Int), LF (Value.int IntKind.u8) 8 x70.7 (tipsL x71) ∧ (↑(List.length x71) :
Int) = x70.4 ∧ dTC xs = LN.mk (rsC xs (18446744073709551615 : Int) (Int.toNat (x70.3 - x70.4)) x70.1 x70.2).1 (rsC xs (18446744073709551615 : Int) (Int.toNat (x70.3 - x70.4)) x70.1
x70.2).2 (x71 ++ (rsC xs (18446744073709551615 : Int) (Int.toNat (x70.3 - x70.4)) x70.1 x70.2).3)) → (x70.4 < x70.3 → (x70.2 = 0 → (True ∧ (∃ (x72 : List Int), RI (RA.mk (SA.mk a.1
a.2 a.3 a.4 a.5) x70.1 x70.2 (18446744073709551615 : Int)) x72) ∧ (x70.2 = 0 → x70.1 < (↑a.3 : Int)) ∧ a.3 ≤ 1000000) ∧ (((Z4 a ∧ x70.1 = x70.1 ∧ x70.2 = x70.2 ∧ True) ∧ Int.ofNat
18446744073709551615 = (18446744073709551615 : Int) ∧ True) ∧ ZF a.5 ∧ True) ∧ (∀ (x73 : RR), (∀ (x74 : List Int), RI (RA.mk (SA.mk a.1 a.2 a.3 a.4 a.5) x70.1 x70.2
(18446744073709551615 : Int)) x74 → x73 = rdC x74 x70.1 x70.2 (Int.ofNat 18446744073709551615)) → (True ∧ (0 ≤ x73.3 ∧ x73.3 < 18446744073709551616) ∧ True) ∧ ((x73.3 = x73.3 ∧
True) ∧ True) ∧ (∀ (x75 : Unit), True → (x70.7.1 = true → 8 ≤ List.length [Value.iface 1000000007 (Value.int IntKind.u8 (x73.3 % (256 : Int))), Value.iface 1000000007 (Value.int
IntKind.u8 (x73.3 / (256 : Int) % (256 : Int))), Value.iface 1000000007 (Value.int IntKind.u8 (x73.3 / (65536 : Int) % (256 : Int))), Value.iface 1000000007 (Value.int IntKind.u8
(x73.3 / (16777216 : Int) % (256 : Int))), Value.iface 1000000007 (Value.int IntKind.u8 (x73.3 / (4294967296 : Int) % (256 : Int))), Value.iface 1000000007 (Value.int IntKind.u8
(x73.3 / (1099511627776 : Int) % (256 : Int))), Value.iface 1000000007 (Value.int IntKind.u8 (x73.3 / (281474976710656 : Int) % (256 : Int))), Value.iface 1000000007 (Value.int
IntKind.u8 (x73.3 / (72057594037927936 : Int) % (256 : Int)))] ∧ ∀ (x76 : List Value), x76 = lwin [Value.iface 1000000007 (Value.int IntKind.u8 (x73.3 % (256 : Int))), Value.iface
1000000007 (Value.int IntKind.u8 (x73.3 / (256 : Int) % (256 : Int))), Value.iface 1000000007 (Value.int IntKind.u8 (x73.3 / (65536 : Int) % (256 : Int))), Value.iface 1000000007
(Value.int IntKind.u8 (x73.3 / (16777216 : Int) % (256 : Int))), Value.iface 1000000007 (Value.int IntKind.u8 (x73.3 / (4294967296 : Int) % (256 : Int))), Value.iface 1000000007
(Value.int IntKind.u8 (x73.3 / (1099511627776 : Int) % (256 : Int))), Value.iface 1000000007 (Value.int IntKind.u8 (x73.3 / (281474976710656 : Int) % (256 : Int))), Value.iface
1000000007 (Value.int IntKind.u8 (x73.3 / (72057594037927936 : Int) % (256 : Int)))] 0 8 → (1 = 0 → ((True ∧ True ∧ True) ∧ (W_G_decP2g_0 x70 = W_G_decP2g_0 x70 ∧ W_G_decP2g_0 x70
= W_G_decP2g_0 x70 ∧ True) ∧ True ∧ True ∧ True ∧ True ∧ True ∧ True ∧ True) ∧ ∀ x77, x77 = IntKind.wrap .u64 (x70.4 + (1 : Int)) → ∃ (x78 : PL), (((0 ≤ x78.4 ∧ x78.4 ≤ x78.3) ∧
x78.3 = (dtC xs).3 ∧ 0 ≤ x78.1 ∧ x78.1 ≤ (↑a.3 : Int)) ∧ LC x78.5 (dWC xs).3 ∧ LF Value.bool 1 x78.6 (goneL (dGC xs).3) ∧ ∃ (x79 : List Int), LF (Value.int IntKind.u8) 8 x78.7
(tipsL x79) ∧ (↑(List.length x79) : Int) = x78.4 ∧ dTC xs = LN.mk (rsC xs (18446744073709551615 : Int) (Int.toNat (x78.3 - x78.4)) x78.1 x78.2).1 (rsC xs (18446744073709551615 :
Int) (Int.toNat (x78.3 - x78.4)) x78.1 x78.2).2 (x79 ++ (rsC xs (18446744073709551615 : Int) (Int.toNat (x78.3 - x78.4)) x78.1 x78.2).3)) ∧ Int.toNat (x78.3 - x78.4) < Int.toNat
(x70.3 - x70.4) ∧ (0 = 0 ∧ 0 = 0 ∧ 0 = 0 ∧ x78.3 = x70.3 ∧ x78.4 = x77 ∧ True) ∧ (ZF a.5 ∧ (True ∧ (x78.5.1 = x70.5.1 ∧ 0 = 0 ∧ x78.5.2 = x70.5.2 ∧ x78.5.3 = x70.5.3) ∧ (x78.6.1 =
x70.6.1 ∧ 0 = 0 ∧ x78.6.2 = x70.6.2 ∧ x78.6.3 = x70.6.3) ∧ (x78.7.1 = true ∧ x78.7.2 = 0 ∧ x78.7.3 = 0) ∧ (0 : Int) = 0 ∧ (0 : Int) = 0 ∧ (0 : Int) = 0 ∧ (0 : Int) = 0 ∧ (0 : Int)
= 0 ∧ True) ∧ (True ∧ Z4 a ∧ x78.1 = x73.1 ∧ x78.2 = x73.2 ∧ True) ∧ (x78.5.3 = x70.5.3 ∧ FlatL x78.5.4 ∧ x78.5.4 = x70.5.4) ∧ (True ∧ (0 = 0 ∧ 0 = 0) ∧ (0 = 0 ∧ 0 = 0) ∧ (0 = 0 ∧
0 = 0) ∧ (0 : Int) = 0 ∧ (0 : Int) = 0 ∧ (0 : Int) = 0 ∧ (0 : Int) = 0 ∧ (0 : Int) = 0 ∧ True) ∧ (x78.6.3 = x70.6.3 ∧ FlatL x78.6.4 ∧ x78.6.4 = x70.6.4) ∧ (FlatL x78.7.4 ∧ True) ∧
True) ∧ True) ∧ (1 ≠ 0 → Few 1 8 ∧ ((True ∧ True ∧ True) ∧ (W_G_decP2g_0 x70 = W_G_decP2g_0 x70 ∧ W_G_decP2g_0 x70 = W_G_decP2g_0 x70 ∧ True) ∧ True ∧ True ∧ True ∧ True ∧ True ∧
True ∧ True) ∧ ∀ x80, x80 = IntKind.wrap .u64 (x70.4 + (1 : Int)) → ∃ (x81 : PL), (((0 ≤ x81.4 ∧ x81.4 ≤ x81.3) ∧ x81.3 = (dtC xs).3 ∧ 0 ≤ x81.1 ∧ x81.1 ≤ (↑a.3 : Int)) ∧ LC x81.5
(dWC xs).3 ∧ LF Value.bool 1 x81.6 (goneL (dGC xs).3) ∧ ∃ (x82 : List Int), LF (Value.int IntKind.u8) 8 x81.7 (tipsL x82) ∧ (↑(List.length x82) : Int) = x81.4 ∧ dTC xs = LN.mk (rsC
xs (18446744073709551615 : Int) (Int.toNat (x81.3 - x81.4)) x81.1 x81.2).1 (rsC xs (18446744073709551615 : Int) (Int.toNat (x81.3 - x81.4)) x81.1 x81.2).2 (x82 ++ (rsC xs
(18446744073709551615 : Int) (Int.toNat (x81.3 - x81.4)) x81.1 x81.2).3)) ∧ Int.toNat (x81.3 - x81.4) < Int.toNat (x70.3 - x70.4) ∧ (0 = 0 ∧ 0 = 0 ∧ 0 = 0 ∧ x81.3 = x70.3 ∧ x81.4 =
x80 ∧ True) ∧ (ZF a.5 ∧ (True ∧ (x81.5.1 = x70.5.1 ∧ 0 = 0 ∧ x81.5.2 = x70.5.2 ∧ x81.5.3 = x70.5.3) ∧ (x81.6.1 = x70.6.1 ∧ 0 = 0 ∧ x81.6.2 = x70.6.2 ∧ x81.6.3 = x70.6.3) ∧ (x81.7.1
= false ∧ 0 = 0 ∧ x81.7.2 = 1 ∧ x81.7.3 = 1) ∧ (0 : Int) = 0 ∧ (0 : Int) = 0 ∧ (0 : Int) = 0 ∧ (0 : Int) = 0 ∧ (0 : Int) = 0 ∧ True) ∧ (True ∧ Z4 a ∧ x81.1 = x73.1 ∧ x81.2 = x73.2
∧ True) ∧ (x81.5.3 = x70.5.3 ∧ FlatL x81.5.4 ∧ x81.5.4 = x70.5.4) ∧ (True ∧ (0 = 0 ∧ 0 = 0) ∧ (0 = 0 ∧ 0 = 0) ∧ (0 = 0 ∧ 0 = 0) ∧ (0 : Int) = 0 ∧ (0 : Int) = 0 ∧ (0 : Int) = 0 ∧ (0
: Int) = 0 ∧ (0 : Int) = 0 ∧ True) ∧ (x81.6.3 = x70.6.3 ∧ FlatL x81.6.4 ∧ x81.6.4 = x70.6.4) ∧ (x81.7.3 = 1 ∧ FlatL x81.7.4 ∧ x81.7.4 = x76) ∧ True) ∧ True)) ∧ (x70.7.1 = false → 8
≤ List.length [Value.iface 1000000007 (Value.int IntKind.u8 (x73.3 % (256 : Int))), Value.iface 1000000007 (Value.int IntKind.u8 (x73.3 / (256 : Int) % (256 : Int))), Value.iface
1000000007 (Value.int IntKind.u8 (x73.3 / (65536 : Int) % (256 : Int))), Value.iface 1000000007 (Value.int IntKind.u8 (x73.3 / (16777216 : Int) % (256 : Int))), Value.iface
1000000007 (Value.int IntKind.u8 (x73.3 / (4294967296 : Int) % (256 : Int))), Value.iface 1000000007 (Value.int IntKind.u8 (x73.3 / (1099511627776 : Int) % (256 : Int))),
Value.iface 1000000007 (Value.int IntKind.u8 (x73.3 / (281474976710656 : Int) % (256 : Int))), Value.iface 1000000007 (Value.int IntKind.u8 (x73.3 / (72057594037927936 : Int) %
(256 : Int)))] ∧ ∀ (x83 : List Value), x83 = lwin [Value.iface 1000000007 (Value.int IntKind.u8 (x73.3 % (256 : Int))), Value.iface 1000000007 (Value.int IntKind.u8 (x73.3 / (256 :
Int) % (256 : Int))), Value.iface 1000000007 (Value.int IntKind.u8 (x73.3 / (65536 : Int) % (256 : Int))), Value.iface 1000000007 (Value.int IntKind.u8 (x73.3 / (16777216 : Int) %
(256 : Int))), Value.iface 1000000007 (Value.int IntKind.u8 (x73.3 / (4294967296 : Int) % (256 : Int))), Value.iface 1000000007 (Value.int IntKind.u8 (x73.3 / (1099511627776 : Int)
% (256 : Int))), Value.iface 1000000007 (Value.int IntKind.u8 (x73.3 / (281474976710656 : Int) % (256 : Int))), Value.iface 1000000007 (Value.int IntKind.u8 (x73.3 /
(72057594037927936 : Int) % (256 : Int)))] 0 8 → (0 = 0 ∧ List.length x70.7.4 = x70.7.2 * 8 ∧ x70.7.3 = x70.7.3 ∧ x70.7.2 ≤ x70.7.3 ∧ Few (x70.7.2 + 1) 8 ∧ lall oneK x83 = true) ∧
∀ (x84 x85 : Nat), x84 = x70.7.2 + 1 → (x85 = if x84 ≤ SN.k (PL.t x70) then x70.7.3 else x84) → ((True ∧ True ∧ True) ∧ (W_G_decP2g_0 x70 = W_G_decP2g_0 x70 ∧ W_G_decP2g_0 x70 =
W_G_decP2g_0 x70 ∧ True) ∧ True ∧ True ∧ True ∧ True ∧ True ∧ True ∧ True) ∧ ∀ x86, x86 = IntKind.wrap .u64 (x70.4 + (1 : Int)) → ∃ (x87 : PL), (((0 ≤ x87.4 ∧ x87.4 ≤ x87.3) ∧
x87.3 = (dtC xs).3 ∧ 0 ≤ x87.1 ∧ x87.1 ≤ (↑a.3 : Int)) ∧ LC x87.5 (dWC xs).3 ∧ LF Value.bool 1 x87.6 (goneL (dGC xs).3) ∧ ∃ (x88 : List Int), LF (Value.int IntKind.u8) 8 x87.7
(tipsL x88) ∧ (↑(List.length x88) : Int) = x87.4 ∧ dTC xs = LN.mk (rsC xs (18446744073709551615 : Int) (Int.toNat (x87.3 - x87.4)) x87.1 x87.2).1 (rsC xs (18446744073709551615 :
Int) (Int.toNat (x87.3 - x87.4)) x87.1 x87.2).2 (x88 ++ (rsC xs (18446744073709551615 : Int) (Int.toNat (x87.3 - x87.4)) x87.1 x87.2).3)) ∧ Int.toNat (x87.3 - x87.4) < Int.toNat
(x70.3 - x70.4) ∧ (0 = 0 ∧ 0 = 0 ∧ 0 = 0 ∧ x87.3 = x70.3 ∧ x87.4 = x86 ∧ True) ∧ (ZF a.5 ∧ (True ∧ (x87.5.1 = x70.5.1 ∧ 0 = 0 ∧ x87.5.2 = x70.5.2 ∧ x87.5.3 = x70.5.3) ∧ (x87.6.1 =
x70.6.1 ∧ 0 = 0 ∧ x87.6.2 = x70.6.2 ∧ x87.6.3 = x70.6.3) ∧ (x87.7.1 = false ∧ 0 = 0 ∧ x87.7.2 = x84 ∧ x87.7.3 = x85) ∧ (0 : Int) = 0 ∧ (0 : Int) = 0 ∧ (0 : Int) = 0 ∧ (0 : Int) = 0
∧ (0 : Int) = 0 ∧ True) ∧ (True ∧ Z4 a ∧ x87.1 = x73.1 ∧ x87.2 = x73.2 ∧ True) ∧ (x87.5.3 = x70.5.3 ∧ FlatL x87.5.4 ∧ x87.5.4 = x70.5.4) ∧ (True ∧ (0 = 0 ∧ 0 = 0) ∧ (0 = 0 ∧ 0 = 0)
∧ (0 = 0 ∧ 0 = 0) ∧ (0 : Int) = 0 ∧ (0 : Int) = 0 ∧ (0 : Int) = 0 ∧ (0 : Int) = 0 ∧ (0 : Int) = 0 ∧ True) ∧ (x87.6.3 = x70.6.3 ∧ FlatL x87.6.4 ∧ x87.6.4 = x70.6.4) ∧ (x87.7.3 = x85
∧ FlatL x87.7.4 ∧ x87.7.4 = x70.7.4 ++ x83) ∧ True) ∧ True)) ∧ True) ∧ True) ∧ (¬x70.2 = 0 → ∃ (x89 : PL), ((0 ≤ x89.1 ∧ x89.1 ≤ (↑a.3 : Int)) ∧ LC x89.5 (dWC xs).3 ∧ LF Value.bool
1 x89.6 (goneL (dGC xs).3) ∧ LF (Value.int IntKind.u8) 8 x89.7 (tipsL (dTC xs).3) ∧ x89.1 = (dTC xs).1 ∧ x89.2 = (dTC xs).2) ∧ (0 = 0 ∧ 0 = 0 ∧ 0 = 0 ∧ True) ∧ (ZF a.5 ∧ (True ∧
(x89.5.1 = x70.5.1 ∧ 0 = 0 ∧ x89.5.2 = x70.5.2 ∧ x89.5.3 = x70.5.3) ∧ (x89.6.1 = x70.6.1 ∧ 0 = 0 ∧ x89.6.2 = x70.6.2 ∧ x89.6.3 = x70.6.3) ∧ (x89.7.1 = x70.7.1 ∧ 0 = 0 ∧ x89.7.2 =
x70.7.2 ∧ x89.7.3 = x70.7.3) ∧ (0 : Int) = 0 ∧ (0 : Int) = 0 ∧ (0 : Int) = 0 ∧ (0 : Int) = 0 ∧ (0 : Int) = 0 ∧ True) ∧ (True ∧ Z4 a ∧ x89.1 = x70.1 ∧ x89.2 = x70.2 ∧ True) ∧
(x89.5.3 = x70.5.3 ∧ FlatL x89.5.4 ∧ x89.5.4 = x70.5.4) ∧ (True ∧ (0 = 0 ∧ 0 = 0) ∧ (0 = 0 ∧ 0 = 0) ∧ (0 = 0 ∧ 0 = 0) ∧ (0 : Int) = 0 ∧ (0 : Int) = 0 ∧ (0 : Int) = 0 ∧ (0 : Int) =
0 ∧ (0 : Int) = 0 ∧ True) ∧ (x89.6.3 = x70.6.3 ∧ FlatL x89.6.4 ∧ x89.6.4 = x70.6.4) ∧ (x89.7.3 = x70.7.3 ∧ FlatL x89.7.4 ∧ x89.7.4 = x70.7.4) ∧ True) ∧ True)) ∧ (¬x70.4 < x70.3 → ∃
(x90 : PL), ((0 ≤ x90.1 ∧ x90.1 ≤ (↑a.3 : Int)) ∧ LC x90.5 (dWC xs).3 ∧ LF Value.bool 1 x90.6 (goneL (dGC xs).3) ∧ LF (Value.int IntKind.u8) 8 x90.7 (tipsL (dTC xs).3) ∧ x90.1 =
(dTC xs).1 ∧ x90.2 = (dTC xs).2) ∧ (0 = 0 ∧ 0 = 0 ∧ 0 = 0 ∧ True) ∧ (ZF a.5 ∧ (True ∧ (x90.5.1 = x70.5.1 ∧ 0 = 0 ∧ x90.5.2 = x70.5.2 ∧ x90.5.3 = x70.5.3) ∧ (x90.6.1 = x70.6.1 ∧ 0 =
0 ∧ x90.6.2 = x70.6.2 ∧ x90.6.3 = x70.6.3) ∧ (x90.7.1 = x70.7.1 ∧ 0 = 0 ∧ x90.7.2 = x70.7.2 ∧ x90.7.3 = x70.7.3) ∧ (0 : Int) = 0 ∧ (0 : Int) = 0 ∧ (0 : Int) = 0 ∧ (0 : Int) = 0 ∧
(0 : Int) = 0 ∧ True) ∧ (True ∧ Z4 a ∧ x90.1 = x70.1 ∧ x90.2 = x70.2 ∧ True) ∧ (x90.5.3 = x70.5.3 ∧ FlatL x90.5.4 ∧ x90.5.4 = x70.5.4) ∧ (True ∧ (0 = 0 ∧ 0 = 0) ∧ (0 = 0 ∧ 0 = 0) ∧
(0 = 0 ∧ 0 = 0) ∧ (0 : Int) = 0 ∧ (0 : Int) = 0 ∧ (0 : Int) = 0 ∧ (0 : Int) = 0 ∧ (0 : Int) = 0 ∧ True) ∧ (x90.6.3 = x70.6.3 ∧ FlatL x90.6.4 ∧ x90.6.4 = x70.6.4) ∧ (x90.7.3 =
x70.7.3 ∧ FlatL x90.7.4 ∧ x90.7.4 = x70.7.4) ∧ True) ∧ True)) ∧ ∀ (x91 : PL), (0 ≤ x91.1 ∧ x91.1 ≤ (↑a.3 : Int)) ∧ LC x91.5 (dWC xs).3 ∧ LF Value.bool 1 x91.6 (goneL (dGC xs).3) ∧
LF (Value.int IntKind.u8) 8 x91.7 (tipsL (dTC xs).3) ∧ x91.1 = (dTC xs).1 ∧ x91.2 = (dTC xs).2 → (True ∧ (∃ (x92 : List Int), RI (RA.mk (SA.mk a.1 a.2 a.3 a.4 a.5) x91.1 x91.2
(18446744073709551615 : Int)) x92) ∧ (x91.2 = 0 → x91.1 < (↑a.3 : Int)) ∧ a.3 ≤ 1000000) ∧ (((Z4 a ∧ x91.1 = x91.1 ∧ x91.2 = x91.2 ∧ True) ∧ Int.ofNat 18446744073709551615 =
(18446744073709551615 : Int) ∧ True) ∧ ZF a.5 ∧ True) ∧ (∀ (x93 : RR), (∀ (x94 : List Int), RI (RA.mk (SA.mk a.1 a.2 a.3 a.4 a.5) x91.1 x91.2 (18446744073709551615 : Int)) x94 →
x93 = rdC x94 x91.1 x91.2 (Int.ofNat 18446744073709551615)) → (True ∧ (0 ≤ x93.3 ∧ x93.3 < 18446744073709551616) ∧ True) ∧ ((x93.3 = x93.3 ∧ True) ∧ True) ∧ (∀ (x95 : Unit), True →
(True ∧ (∃ (x96 : List Int), RI (RA.mk (SA.mk a.1 a.2 a.3 a.4 a.5) x93.1 x93.2 (18446744073709551615 : Int)) x96) ∧ (x93.2 = 0 → x93.1 < (↑a.3 : Int)) ∧ a.3 ≤ 1000000) ∧ (((Z4 a ∧
x93.1 = x93.1 ∧ x93.2 = x93.2 ∧ True) ∧ Int.ofNat 18446744073709551615 = (18446744073709551615 : Int) ∧ True) ∧ ZF a.5 ∧ True) ∧ (∀ (x97 : RR), (∀ (x98 : List Int), RI (RA.mk
(SA.mk a.1 a.2 a.3 a.4 a.5) x93.1 x93.2 (18446744073709551615 : Int)) x98 → x97 = rdC x98 x93.1 x93.2 (Int.ofNat 18446744073709551615)) → (True ∧ (0 ≤ x97.3 ∧ x97.3 <
18446744073709551616) ∧ True) ∧ ((x97.3 = x97.3 ∧ True) ∧ True) ∧ (∀ (x99 : Unit), True → (True ∧ (∃ (x100 : List Int), RI (RA.mk (SA.mk a.1 a.2 a.3 a.4 a.5) x97.1 x97.2
(18446744073709551615 : Int)) x100) ∧ (x97.2 = 0 → x97.1 < (↑a.3 : Int)) ∧ a.3 ≤ 1000000) ∧ (((Z4 a ∧ x97.1 = x97.1 ∧ x97.2 = x97.2 ∧ True) ∧ Int.ofNat 18446744073709551615 =
(18446744073709551615 : Int) ∧ True) ∧ ZF a.5 ∧ True) ∧ (∀ (x101 : RR), (∀ (x102 : List Int), RI (RA.mk (SA.mk a.1 a.2 a.3 a.4 a.5) x97.1 x97.2 (18446744073709551615 : Int)) x102 →
x101 = rdC x102 x97.1 x97.2 (Int.ofNat 18446744073709551615)) → (True ∧ (0 ≤ x101.3 ∧ x101.3 < 18446744073709551616) ∧ True) ∧ ((x101.3 = x101.3 ∧ True) ∧ True) ∧ (∀ (x103 : Unit),
True → (True ∧ (∃ (x104 : List Int), RI (RA.mk (SA.mk a.1 a.2 a.3 a.4 a.5) x101.1 x101.2 (18446744073709551615 : Int)) x104) ∧ (x101.2 = 0 → x101.1 < (↑a.3 : Int)) ∧ a.3 ≤ 1000000)
∧ (((Z4 a ∧ x101.1 = x101.1 ∧ x101.2 = x101.2 ∧ True) ∧ Int.ofNat 18446744073709551615 = (18446744073709551615 : Int) ∧ True) ∧ ZF a.5 ∧ True) ∧ (∀ (x105 : RR), (∀ (x106 : List
Int), RI (RA.mk (SA.mk a.1 a.2 a.3 a.4 a.5) x101.1 x101.2 (18446744073709551615 : Int)) x106 → x105 = rdC x106 x101.1 x101.2 (Int.ofNat 18446744073709551615)) → (True ∧ (0 ≤ x105.3
∧ x105.3 < 18446744073709551616) ∧ True) ∧ ((x105.3 = x105.3 ∧ True) ∧ True) ∧ (∀ (x107 : Unit), True → (True ∧ (∃ (x108 : List Int), RI (RA.mk (SA.mk a.1 a.2 a.3 a.4 a.5) x105.1
x105.2 (18446744073709551615 : Int)) x108) ∧ (x105.2 = 0 → x105.1 < (↑a.3 : Int)) ∧ a.3 ≤ 1000000) ∧ (((Z4 a ∧ x105.1 = x105.1 ∧ x105.2 = x105.2 ∧ True) ∧ Int.ofNat
18446744073709551615 = (18446744073709551615 : Int) ∧ True) ∧ ZF a.5 ∧ True) ∧ (∀ (x109 : RR), (∀ (x110 : List Int), RI (RA.mk (SA.mk a.1 a.2 a.3 a.4 a.5) x105.1 x105.2
(18446744073709551615 : Int)) x110 → x109 = rdC x110 x105.1 x105.2 (Int.ofNat 18446744073709551615)) → (x109.2 = 0 → ∀ (x111 : Int), x111 = (↑a.3 : Int) → (x109.1 < x111 → ∃ (x112
: EE), (x112.1 ≠ 0 ∧ ∀ (x113 : List Int), SB a.1 a.2 a.3 a.4 a.5 x113 → endC x113 (r4C x113).1 (r4C x113).2 = x112.1) ∧ (((0 = 0 ∧ 0 = 0) ∧ (0 = 0 ∧ 0 = 0) ∧ (0 = 0 ∧ 0 = 0) ∧ (0 :
Int) = 0 ∧ (0 : Int) = 0 ∧ (0 : Int) = 0 ∧ (0 : Int) = 0 ∧ (0 : Int) = 0 ∧ True) ∧ x112.1 = 5 ∧ True) ∧ True) ∧ (¬x109.1 < x111 → (x109.2 ≠ 0 → ∃ (x114 : EE), (x114.1 ≠ 0 ∧ ∀ (x115
: List Int), SB a.1 a.2 a.3 a.4 a.5 x115 → endC x115 (r4C x115).1 (r4C x115).2 = x114.1) ∧ (((0 = 0 ∧ 0 = 0) ∧ (0 = 0 ∧ 0 = 0) ∧ (0 = 0 ∧ 0 = 0) ∧ (0 : Int) = 0 ∧ (0 : Int) = 0 ∧
(0 : Int) = 0 ∧ (0 : Int) = 0 ∧ (0 : Int) = 0 ∧ True) ∧ x114.1 = x109.2 ∧ True) ∧ True) ∧ (¬x109.2 ≠ 0 → ∃ (x116 : PR), (∀ (x117 : List Int), SB a.1 a.2 a.3 a.4 a.5 x117 → endC
x117 (r4C x117).1 (r4C x117).2 = (0 : Int) ∧ (LC x116.1 (dWC x117).3 ∧ LF Value.bool 1 x116.2 (goneL (dGC x117).3) ∧ LF (Value.int IntKind.u8) 8 x116.3 (tipsL (dTC x117).3)) ∧
x116.4 = unfI (r0C x117).3 ∧ x116.5 = unfI (r1C x117).3 ∧ x116.6 = unfI (r2C x117).3 ∧ x116.7 = unfI (r3C x117).3 ∧ x116.8 = (r4C x117).3) ∧ (((x116.1.1 = x91.5.1 ∧ 0 = 0 ∧
x116.1.2 = x91.5.2 ∧ x116.1.3 = x91.5.3) ∧ (x116.2.1 = x91.6.1 ∧ 0 = 0 ∧ x116.2.2 = x91.6.2 ∧ x116.2.3 = x91.6.3) ∧ (x116.3.1 = x91.7.1 ∧ 0 = 0 ∧ x116.3.2 = x91.7.2 ∧ x116.3.3 =
x91.7.3) ∧ x116.4 = unfI x93.3 ∧ x116.5 = unfI x97.3 ∧ x116.6 = unfI x101.3 ∧ x116.7 = unfI x105.3 ∧ x116.8 = x109.3 ∧ True) ∧ (0 : Int) = 0 ∧ True) ∧ (x116.1.3 = x91.5.3 ∧ FlatL
x116.1.4 ∧ x116.1.4 = x91.5.4) ∧ (x116.2.3 = x91.6.3 ∧ FlatL x116.2.4 ∧ x116.2.4 = x91.6.4) ∧ (x116.3.3 = x91.7.3 ∧ FlatL x116.3.4 ∧ x116.3.4 = x91.7.4) ∧ True))) ∧ (¬x109.2 = 0 →
(x109.2 ≠ 0 → ∃ (x118 : EE), (x118.1 ≠ 0 ∧ ∀ (x119 : List Int), SB a.1 a.2 a.3 a.4 a.5 x119 → endC x119 (r4C x119).1 (r4C x119).2 = x118.1) ∧ (((0 = 0 ∧ 0 = 0) ∧ (0 = 0 ∧ 0 = 0) ∧
(0 = 0 ∧ 0 = 0) ∧ (0 : Int) = 0 ∧ (0 : Int) = 0 ∧ (0 : Int) = 0 ∧ (0 : Int) = 0 ∧ (0 : Int) = 0 ∧ True) ∧ x118.1 = x109.2 ∧ True) ∧ True) ∧ (¬x109.2 ≠ 0 → ∃ (x120 : PR), (∀ (x121 :
List Int), SB a.1 a.2 a.3 a.4 a.5 x121 → endC x121 (r4C x121).1 (r4C x121).2 = (0 : Int) ∧ (LC x120.1 (dWC x121).3 ∧ LF Value.bool 1 x120.2 (goneL (dGC x121).3) ∧ LF (Value.int
IntKind.u8) 8 x120.3 (tipsL (dTC x121).3)) ∧ x120.4 = unfI (r0C x121).3 ∧ x120.5 = unfI (r1C x121).3 ∧ x120.6 = unfI (r2C x121).3 ∧ x120.7 = unfI (r3C x121).3 ∧ x120.8 = (r4C
x121).3) ∧ (((x120.1.1 = x91.5.1 ∧ 0 = 0 ∧ x120.1.2 = x91.5.2 ∧ x120.1.3 = x91.5.3) ∧ (x120.2.1 = x91.6.1 ∧ 0 = 0 ∧ x120.2.2 = x91.6.2 ∧ x120.2.3 = x91.6.3) ∧ (x120.3.1 = x91.7.1 ∧
0 = 0 ∧ x120.3.2 = x91.7.2 ∧ x120.3.3 = x91.7.3) ∧ x120.4 = unfI x93.3 ∧ x120.5 = unfI x97.3 ∧ x120.6 = unfI x101.3 ∧ x120.7 = unfI x105.3 ∧ x120.8 = x109.3 ∧ True) ∧ (0 : Int) = 0
∧ True) ∧ (x120.1.3 = x91.5.3 ∧ FlatL x120.1.4 ∧ x120.1.4 = x91.5.4) ∧ (x120.2.3 = x91.6.3 ∧ FlatL x120.2.4 ∧ x120.2.4 = x91.6.4) ∧ (x120.3.3 = x91.7.3 ∧ FlatL x120.3.4 ∧ x120.3.4
= x91.7.4) ∧ True))) ∧ True) ∧ True) ∧ True) ∧ True) ∧ True) ∧ True) ∧ True) ∧ True) ∧ True) ∧ True) ∧ True) ∧ True) := by kernel_rfl
theorem g_read1g (a : RA) (xs : List Int) (h : RI a xs) (ha : a.e = 0 → a.at_ < a.s.l) (hl : a.s.l ≤ 1000000) : G_read1g a := by
  have hlen := h.len
  have h0 := h.at0
  have h1 := h.at1
  have fl := h.sl.flat
  have hcap := h.sl.cap
  have q : ∀ {r : RR}, rdC xs a.at_ a.e a.m = r → ∀ ys : List Int, RI a ys → r = rdC ys a.at_ a.e a.m := fun e ys hy => by rw [hy.uniq h]; exact e.symm
  rw [vc_read1g]
  refine ⟨fun he => ⟨_, q (rdC_ne he), ⟨⟨⟨rfl, rfl, rfl, rfl⟩, rfl, rfl, trivial⟩, rfl, trivial⟩, trivial⟩, fun he => ⟨fun hn => ?_, fun hn => ?_⟩⟩
  · have hn0 := (h.sl.nil hn).1
    have hx0 : xs = [] := List.eq_nil_of_length_eq_zero (by omega)
    have ha0 : a.at_ = 0 := by omega
    have hlk : lookN ([] : List Int) = ⟨0, 0, 4⟩ := rfl
    refine ⟨⟨ha0, rfl⟩, ⟨trivial, ⟨[], .none, fun b hb => by cases hb⟩, Nat.zero_le _⟩, ⟨⟨⟨rfl, rfl, rfl⟩, trivial⟩, ⟨flatL_nil, trivial⟩, trivial⟩, fun y hy => ?_, trivial⟩
    have hy := hy [] .none
    rw [hlk] at hy
    subst hy
    refine ⟨fun h => absurd h (by decide), fun _ => ⟨fun _ => ⟨_, q (rdC_bad he ?_), ⟨⟨⟨rfl, rfl, rfl, rfl⟩, rfl, ?_, trivial⟩, rfl, trivial⟩, trivial⟩, fun h => absurd (show (4 : Int) ≠ 0 by decide) h⟩⟩
    · subst hx0; rw [List.drop_nil, hlk]; decide
    · subst hx0; rw [List.drop_nil, hlk]
  · have hs : Sli (Value.int .u8) 1 false a.s.o a.s.l a.s.k a.s.c xs := by have := h.sl; rw [hn] at this; exact this
    refine ⟨⟨⟨h0, h1, by omega⟩, fun _ => ⟨by omega, .inr (by have := ha (Decidable.not_not.1 he); omega)⟩⟩, fun p l' k' hp hl' hk' => ?_⟩
    have hw := Sli.dropW hs (i := a.at_.toNat) (p := p) (q := l') (r := k') (by omega) hp (by omega) hk'
    refine ⟨⟨trivial, ⟨_, hw, byts_drop h.by_ _⟩, by omega⟩, ⟨⟨⟨rfl, rfl, rfl, rfl⟩, trivial⟩, ⟨trivial, fl, rfl⟩, trivial⟩, fun y hy => ?_, trivial⟩
    have hy := hy _ hw
    subst hy
    refine ⟨fun hz => ⟨fun hm => ⟨_, q (rdC_big he (fun h => h hz) hm), ⟨⟨⟨rfl, rfl, rfl, rfl⟩, rfl, rfl, trivial⟩, rfl, trivial⟩, trivial⟩, fun hm => ⟨fun hne => absurd hz hne, fun hne z hz' => ?_⟩⟩, fun hz => ⟨fun hne => ⟨_, q (rdC_bad he hne), ⟨⟨⟨rfl, rfl, rfl, rfl⟩, rfl, rfl, trivial⟩, rfl, trivial⟩, trivial⟩, fun hne => absurd hz hne⟩⟩
    obtain ⟨k1, k2, k3, k4⟩ := look_in h.by_ h0 (by omega) hne
    rw [wrap_sm (by omega)] at hz'
    exact ⟨_, q (rdC_ok he hne hm), ⟨⟨⟨rfl, rfl, rfl, rfl⟩, hz'.symm, by show (0 : Int) = a.e; omega, trivial⟩, rfl, trivial⟩, trivial⟩
theorem s_read1g : SpecOK Tryz.prog S_read1g.spec := fun a K hp hq => by
  obtain ⟨⟨xs, h⟩, ha, hl⟩ := hp
  exact specD_at (an := []) envOK (cwN_ok (fun _ h => cwD_ok s_num1 h) 2) (fun _ => g_read1g a xs h ha hl) K ⟨⟨xs, h⟩, ha, hl⟩ hq
theorem g_word1g (a : RA) (xs : List Int) (h : RI a xs) (ha : a.e = 0 → a.at_ < a.s.l) (hl : a.s.l ≤ 1000000) : G_word1g a := by
  have fl := h.sl.flat
  have hri : RI ⟨a.s, a.at_, a.e, 18446744073709551615⟩ xs := h.with h.at0 h.at1 (by decide) (by decide)
  have q : ∀ {w : WR}, wdC xs a.at_ a.e = w → ∀ ys : List Int, RI a ys → w = wdC ys a.at_ a.e := fun e ys hy => by rw [hy.uniq h]; exact e.symm
  rw [vc_word1g]
  refine ⟨⟨trivial, ⟨xs, hri⟩, ha, hl⟩, ⟨⟨⟨⟨rfl, rfl, rfl, rfl⟩, rfl, rfl, trivial⟩, rfl, trivial⟩, ⟨trivial, fl, rfl⟩, trivial⟩, fun r hr => ?_, trivial⟩
  have hr : r = rdC xs a.at_ a.e 18446744073709551615 := hr xs hri
  obtain ⟨i1, i2, _, _⟩ := rdC_in (e := a.e) h.by_ h.at0 (by rw [h.len]; exact h.at1) (show (0 : Int) ≤ 18446744073709551615 by decide)
  rw [← hr] at i1 i2
  refine ⟨⟨trivial, ⟨i1, by omega⟩, trivial⟩, ⟨⟨rfl, trivial⟩, trivial⟩, fun _ _ => ⟨fun he => ⟨fun h1 => ⟨_, q (wdC_bad (by rw [← hr]; exact ⟨he, .inl h1⟩)), ⟨⟨⟨rfl, rfl, rfl, rfl⟩, rfl, rfl, trivial⟩, rfl, trivial⟩, trivial⟩, fun h1 => ⟨fun h2 => ⟨_, q (wdC_bad (by rw [← hr]; exact ⟨he, .inr h2⟩)), ⟨⟨⟨rfl, rfl, rfl, rfl⟩, rfl, rfl, trivial⟩, rfl, trivial⟩, trivial⟩, fun h2 x8 e8 => ?_⟩⟩, fun he x11 e11 => ?_⟩, trivial⟩
  · exact ⟨_, q (wdC_ok (by rw [← hr]; rintro ⟨_, h | h⟩; exact h1 h; exact h2 h)), ⟨⟨⟨rfl, rfl, rfl, rfl⟩, by rw [← hr], by rw [← hr], trivial⟩, by rw [← hr]; exact e8.symm, trivial⟩, trivial⟩
  · exact ⟨_, q (wdC_ok (by rw [← hr]; rintro ⟨h, _⟩; exact he h)), ⟨⟨⟨rfl, rfl, rfl, rfl⟩, by rw [← hr], by rw [← hr], trivial⟩, by rw [← hr]; exact e11.symm, trivial⟩, trivial⟩
theorem s_word1g : SpecOK Tryz.prog S_word1g.spec := fun a K hp hq => by
  obtain ⟨⟨xs, h⟩, ha, hl⟩ := hp
  exact specD_at (an := []) envOK (cwN_ok (fun _ h => cwD_ok s_read1g (cwD_ok s_unf1 h)) 2) (fun _ => g_word1g a xs h ha hl) K ⟨⟨xs, h⟩, ha, hl⟩ hq
def Ded (xs : List Int) (p e : Int) : Prop := e = 4 ∨ (e = 0 ∧ p = xs.length)
theorem rdC_ded {xs : List Int} {p e m : Int} (h : Ded xs p e) : (rdC xs p e m).e = 4 := by
  rcases h with rfl | ⟨rfl, rfl⟩
  · rw [rdC_ne (by decide)]
  · have hd : xs.drop (xs.length : Int).toNat = [] := List.drop_eq_nil_of_le (by omega)
    rw [rdC_bad (by decide) (by rw [hd]; decide), hd]; rfl
theorem wdC_ded {xs : List Int} {p e : Int} (h : Ded xs p e) : (wdC xs p e).e = 4 := by
  have h4 : (rdC xs p e 18446744073709551615).e = 4 := rdC_ded h
  rw [wdC_ok (by rw [h4]; rintro ⟨h, _⟩; exact absurd h (by decide))]
  exact h4
theorem wsC_ded {xs : List Int} {p e : Int} (h : Ded xs p e) (n : Nat) : Ded xs (wsC xs n p e).at_ (wsC xs n p e).e := by
  cases n with
  | zero => exact h
  | succ n =>
    by_cases he : e = 0
    · subst he
      rw [wsC_succ]
      have h4 := wdC_ded h
      show Ded xs (wsC xs n (wdC xs p 0).at_ (wdC xs p 0).e).at_ (wsC xs n (wdC xs p 0).at_ (wdC xs p 0).e).e
      rw [wsC_ne _ _ _ (by rw [h4]; decide), h4]; exact .inl rfl
    · rw [wsC_ne _ _ _ he]; exact h
theorem rsC_ded {xs : List Int} {m p e : Int} (h : Ded xs p e) (n : Nat) : Ded xs (rsC xs m n p e).at_ (rsC xs m n p e).e := by
  cases n with
  | zero => exact h
  | succ n =>
    by_cases he : e = 0
    · subst he
      rw [rsC_succ]
      have h4 := rdC_ded (m := m) h
      show Ded xs (rsC xs m n (rdC xs p 0 m).at_ (rdC xs p 0 m).e).at_ (rsC xs m n (rdC xs p 0 m).at_ (rdC xs p 0 m).e).e
      rw [rsC_ne _ _ _ _ (by rw [h4]; decide), h4]; exact .inl rfl
    · rw [rsC_ne _ _ _ _ he]; exact h
structure Liv (xs : List Int) : Prop where
  v : ¬ Ded xs 0 0
  dv : ¬ Ded xs (dvC xs).at_ (dvC xs).e
  dW : ¬ Ded xs (dWC xs).at_ (dWC xs).e
  dg : ¬ Ded xs (dgC xs).at_ (dgC xs).e
  dG : ¬ Ded xs (dGC xs).at_ (dGC xs).e
  dt : ¬ Ded xs (dtC xs).at_ (dtC xs).e
  dT : ¬ Ded xs (dTC xs).at_ (dTC xs).e
  r0 : ¬ Ded xs (r0C xs).at_ (r0C xs).e
  r1 : ¬ Ded xs (r1C xs).at_ (r1C xs).e
  r2 : ¬ Ded xs (r2C xs).at_ (r2C xs).e
  r3 : ¬ Ded xs (r3C xs).at_ (r3C xs).e
theorem liv_of {xs : List Int} (h : (decP xs).e ≠ 4) : Liv xs := by
  have r4 : (r4C xs).e ≠ 4 := fun h4 => h (by show endC xs (r4C xs).at_ (r4C xs).e = 4; rw [h4]; unfold endC; rw [if_neg (by rintro ⟨h, _⟩; exact absurd h (by decide))])
  have r3 : ¬ Ded xs (r3C xs).at_ (r3C xs).e := fun d => r4 (rdC_ded d)
  have r2 : ¬ Ded xs (r2C xs).at_ (r2C xs).e := fun d => r3 (.inl (rdC_ded d))
  have r1 : ¬ Ded xs (r1C xs).at_ (r1C xs).e := fun d => r2 (.inl (rdC_ded d))
  have r0 : ¬ Ded xs (r0C xs).at_ (r0C xs).e := fun d => r1 (.inl (rdC_ded d))
  have dT : ¬ Ded xs (dTC xs).at_ (dTC xs).e := fun d => r0 (.inl (rdC_ded d))
  have dt : ¬ Ded xs (dtC xs).at_ (dtC xs).e := fun d => dT (rsC_ded d _)
  have dG : ¬ Ded xs (dGC xs).at_ (dGC xs).e := fun d => dt (.inl (rdC_ded d))
  have dg : ¬ Ded xs (dgC xs).at_ (dgC xs).e := fun d => dG (rsC_ded d _)
  have dW : ¬ Ded xs (dWC xs).at_ (dWC xs).e := fun d => dg (.inl (rdC_ded d))
  have dv : ¬ Ded xs (dvC xs).at_ (dvC xs).e := fun d => dW (wsC_ded d _)
  exact ⟨fun d => dv (.inl (rdC_ded d)), dv, dW, dg, dG, dt, dT, r0, r1, r2, r3⟩
theorem ah_of {xs : List Int} {l : Nat} {p e : Int} (hl : xs.length = l) (h1 : p ≤ l) (h : ¬ Ded xs p e) : e = 0 → p < l := fun he => by
  by_cases hp : p = xs.length
  · exact absurd (.inr ⟨he, hp⟩) h
  · omega
theorem g_decP2g (a : SA) (xs : List Int) (hx : Sli (Value.int .u8) 1 a.n a.o a.l a.k a.c xs) (hb : Byts8 xs) (h4 : (decP xs).e ≠ 4) (hl : a.l ≤ 100000) : G_decP2g a xs := by
  have fl := hx.flat
  have f0 := flatL_nil
  have N := liv_of h4
  have hlen : xs.length = a.l := by have := hx.len; omega
  have hri : ∀ {p e m : Int}, 0 ≤ p → p ≤ a.l → 0 ≤ m → m < 18446744073709551616 → RI ⟨a, p, e, m⟩ xs := fun h0 h1 h2 h3 => ⟨hx, hb, h0, h1, h2, h3⟩
  have hin : ∀ {p e m : Int} {r : RR}, 0 ≤ p → p ≤ a.l → 0 ≤ m → r = rdC xs p e m → 0 ≤ r.n ∧ r.n ≤ m ∧ 0 ≤ r.at_ ∧ r.at_ ≤ a.l := fun h0 h1 h2 h3 => by rw [h3, ← hlen]; exact rdC_in hb h0 (by omega) h2
  rw [vc_decP2g]
  refine ⟨⟨trivial, ⟨xs, hri (by decide) (by omega) (by decide) (by decide)⟩, ah_of hlen (by show (0 : Int) ≤ (a.l : Int); omega) (N.v), by omega⟩, ?_, fun r h => ?_, trivial⟩
  · repeat' first
      | with_reducible apply And.intro
      | exact trivial
      | exact rfl
      | assumption
  have h : r = dvC xs := h xs (hri (by decide) (by omega) (by decide) (by decide))
  obtain ⟨n0, n1, n2, n3⟩ := hin (by decide) (by omega) (by decide) h
  have bv : (dvC xs).n ≤ 64 := by rw [← h]; exact n1
  refine ⟨⟨⟨r.at_, r.e, r.n, 0, ⟨true, 0, 0, []⟩, ⟨true, 0, 0, []⟩, ⟨true, 0, 0, []⟩⟩, ⟨⟨⟨by show (0 : Int) ≤ 0; decide, n0⟩, by show r.n = _; rw [h], n2, n3⟩, [], .none, rfl, ?_⟩, ?_, ?_⟩, ?_⟩
  · show dWC xs = ⟨(wsC xs (r.n - 0).toNat r.at_ r.e).at_, (wsC xs (r.n - 0).toNat r.at_ r.e).e, [] ++ (wsC xs (r.n - 0).toNat r.at_ r.e).ws⟩
    rw [Int.sub_zero, h]; rfl
  · repeat' first
      | with_reducible apply And.intro
      | exact trivial
      | exact rfl
      | assumption
  · rintro ⟨p, e, n, i, v, g, t⟩ ⟨⟨⟨hi0, hi1⟩, hn, hp0, hp1⟩, ys, hv, hyl, hT⟩
    dsimp only at hi0 hi1 hn hp0 hp1 hv hyl hT ⊢
    have fv := hv.flat
    refine ⟨fun hlt => ⟨fun he => ⟨⟨trivial, ⟨xs, hri hp0 hp1 (by decide) (by decide)⟩, ah_of hlen hp1 (fun d => N.dW (by rw [hT]; exact wsC_ded d _)), by omega⟩, ?_, fun w hw => ?_, trivial⟩, fun he => ?_⟩, fun hge => ?_⟩
    · repeat' first
        | with_reducible apply And.intro
        | exact trivial
        | exact rfl
        | assumption
    · have hw : w = wdC xs p e := hw xs (hri hp0 hp1 (by decide) (by decide))
      obtain ⟨k0, k1⟩ := wdC_in (e := e) hb hp0 (by omega)
      rw [← hw] at k0 k1
      refine ⟨fun hnn => ⟨by simp, fun vs hvs => ⟨fun h => absurd h (by decide), fun _ => ⟨by unfold Few; omega, fun z hz => ?_⟩⟩⟩, fun hnn => ⟨by simp, fun vs hvs => ⟨⟨rfl, by have := hv.he.len; have := hv.l; omega, rfl, hv.le, by unfold Few; have := hv.l; omega, by rw [hvs, lwin_one]; exact oneK_one _ _⟩, fun l' k' hl' hk' z hz => ?_⟩⟩⟩
      · rw [wrap_u64] at hz
        have hz : z = i + 1 := by omega
        obtain ⟨rfl, _⟩ := hv.nil hnn
        rw [lwin_one] at hvs
        subst hvs
        have h1 := LC.one w.w
        have f1 := h1.flat
        refine ⟨⟨w.at_, w.e, n, z, ⟨false, 1, 1, _⟩, g, t⟩, ⟨⟨⟨by show 0 ≤ z; omega, by show z ≤ n; omega⟩, hn, k0, by show w.at_ ≤ _; omega⟩, [w.w], h1, by show ((1 : Nat) : Int) = z; simp at hyl; omega, ws_more he hlt hw hz hT⟩, by show (n - z).toNat < (n - i).toNat; omega, ?_⟩
        repeat' first
          | with_reducible apply And.intro
          | exact trivial
          | exact rfl
          | assumption
      · rw [wrap_u64] at hz
        have hz : z = i + 1 := by omega
        rw [lwin_one] at hvs
        subst hvs
        have h1 := hv.snoc w.w hl' hk'
        have f1 := h1.flat
        refine ⟨⟨w.at_, w.e, n, z, ⟨false, l', k', _⟩, g, t⟩, ⟨⟨⟨by show 0 ≤ z; omega, by show z ≤ n; omega⟩, hn, k0, by show w.at_ ≤ _; omega⟩, ys ++ [w.w], h1, by show (((ys ++ [w.w]).length : Nat) : Int) = z; simp; omega, ws_more he hlt hw hz hT⟩, by show (n - z).toNat < (n - i).toNat; omega, ?_⟩
        repeat' first
          | with_reducible apply And.intro
          | exact trivial
          | exact rfl
          | assumption
    · have hE := ws_end (.inl he) hT
      refine ⟨⟨p, e, n, i, v, g, t⟩, ⟨⟨hp0, hp1⟩, by rw [hE]; exact hv, by rw [hE], by rw [hE]⟩, ?_⟩
      repeat' first
        | with_reducible apply And.intro
        | exact trivial
        | exact rfl
        | assumption
    · have hE := ws_end (.inr hge) hT
      refine ⟨⟨p, e, n, i, v, g, t⟩, ⟨⟨hp0, hp1⟩, by rw [hE]; exact hv, by rw [hE], by rw [hE]⟩, ?_⟩
      repeat' first
        | with_reducible apply And.intro
        | exact trivial
        | exact rfl
        | assumption
  rintro ⟨p, e, n, i, v, g, t⟩ ⟨⟨hp0, hp1⟩, hv, hat, hee⟩
  dsimp only at hp0 hp1 hv hat hee ⊢
  have fv := hv.flat
  refine ⟨⟨trivial, ⟨xs, hri hp0 hp1 (by decide) (by decide)⟩, ah_of hlen hp1 (by rw [hat, hee]; exact N.dW), by omega⟩, ?_, fun r h => ?_, trivial⟩
  · repeat' first
      | with_reducible apply And.intro
      | exact trivial
      | exact rfl
      | assumption
  have h0 : r = rdC xs p e 8 := h xs (hri hp0 hp1 (by decide) (by decide))
  obtain ⟨n0, n1, n2, n3⟩ := hin hp0 hp1 (by decide) h0
  have h : r = dgC xs := by rw [h0, hat, hee]; rfl
  have bg : (dgC xs).n ≤ 8 := by rw [← h]; exact n1
  refine ⟨⟨⟨r.at_, r.e, r.n, 0, v, ⟨true, 0, 0, []⟩, ⟨true, 0, 0, []⟩⟩, ⟨⟨⟨by show (0 : Int) ≤ 0; decide, n0⟩, by show r.n = _; rw [h], n2, n3⟩, hv, [], .none, rfl, ?_⟩, ?_, ?_⟩, ?_⟩
  · show dGC xs = ⟨(rsC xs 1 (r.n - 0).toNat r.at_ r.e).at_, (rsC xs 1 (r.n - 0).toNat r.at_ r.e).e, [] ++ (rsC xs 1 (r.n - 0).toNat r.at_ r.e).ns⟩
    rw [Int.sub_zero, h]; rfl
  · repeat' first
      | with_reducible apply And.intro
      | exact trivial
      | exact rfl
      | assumption
  · rintro ⟨p, e, n, i, v, g, t⟩ ⟨⟨⟨hi0, hi1⟩, hn, hp0, hp1⟩, hv, ys, hg, hyl, hT⟩
    dsimp only at hi0 hi1 hn hp0 hp1 hv hg hyl hT ⊢
    have fv := hv.flat
    have fg := hg.he.flatB
    refine ⟨fun hlt => ⟨fun he => ⟨⟨trivial, ⟨xs, hri hp0 hp1 (by decide) (by decide)⟩, ah_of hlen hp1 (fun d => N.dG (by rw [hT]; exact rsC_ded d _)), by omega⟩, ?_, fun r hr => ?_, trivial⟩, fun he => ?_⟩, fun hge => ?_⟩
    · repeat' first
        | with_reducible apply And.intro
        | exact trivial
        | exact rfl
        | assumption
    · have hr : r = rdC xs p e 1 := hr xs (hri hp0 hp1 (by decide) (by decide))
      obtain ⟨_, _, k2, k3⟩ := hin hp0 hp1 (by decide) hr
      refine ⟨fun hr1 => ?_, fun hr1 => ?_⟩
      · have ed : decide (r.n = 1) = true := by simp [hr1]
        have eg : ∀ ys : List Int, goneL (ys ++ [r.n]) = goneL ys ++ [true] := fun ys => by rw [gone_snoc, ed]
        refine ⟨fun hnn => ⟨by decide, fun vs hvs => ⟨fun h => absurd h (by decide), fun _ => ⟨by unfold Few; omega, fun z hz => ?_⟩⟩⟩, fun hnn => ⟨by decide, fun vs hvs => ⟨⟨rfl, hg.len, rfl, hg.le, by unfold Few; have := hg.l; rw [gone_len] at this; omega, by rw [hvs]; rfl⟩, fun l' k' hl' hk' z hz => ?_⟩⟩⟩
        · rw [wrap_u64] at hz
          have hz : z = i + 1 := by omega
          have hvw : HW Value.bool vs [true] := by rw [hvs]; exact HW.oneV
          have hy0 := (hg.nil hnn).1
          have h1 : LF Value.bool 1 ⟨false, 1, 1, vs⟩ (goneL (ys ++ [r.n])) := by rw [eg, hy0]; exact LF.one hvw rfl
          have f1 := h1.he.flatB
          refine ⟨⟨r.at_, r.e, n, z, v, ⟨false, 1, 1, vs⟩, t⟩, ⟨⟨⟨by show 0 ≤ z; omega, by show z ≤ n; omega⟩, hn, k2, k3⟩, hv, ys ++ [r.n], h1, by show (((ys ++ [r.n]).length : Nat) : Int) = z; simp; omega, rs_more he hlt hr hz hT⟩, by show (n - z).toNat < (n - i).toNat; omega, ?_⟩
          repeat' first
            | with_reducible apply And.intro
            | exact trivial
            | exact rfl
            | assumption
        · rw [wrap_u64] at hz
          have hz : z = i + 1 := by omega
          have hvw : HW Value.bool vs [true] := by rw [hvs]; exact HW.oneV
          have h1 : LF Value.bool 1 ⟨false, l', k', g.c ++ vs⟩ (goneL (ys ++ [r.n])) := by rw [eg]; exact hg.snoc hvw rfl hl' hk'
          have f1 := h1.he.flatB
          refine ⟨⟨r.at_, r.e, n, z, v, ⟨false, l', k', g.c ++ vs⟩, t⟩, ⟨⟨⟨by show 0 ≤ z; omega, by show z ≤ n; omega⟩, hn, k2, k3⟩, hv, ys ++ [r.n], h1, by show (((ys ++ [r.n]).length : Nat) : Int) = z; simp; omega, rs_more he hlt hr hz hT⟩, by show (n - z).toNat < (n - i).toNat; omega, ?_⟩
          repeat' first
            | with_reducible apply And.intro
            | exact trivial
            | exact rfl
            | assumption
      · have ed : decide (r.n = 1) = false := by simp [hr1]
        have eg : ∀ ys : List Int, goneL (ys ++ [r.n]) = goneL ys ++ [false] := fun ys => by rw [gone_snoc, ed]
        refine ⟨fun hnn => ⟨by decide, fun vs hvs => ⟨fun h => absurd h (by decide), fun _ => ⟨by unfold Few; omega, fun z hz => ?_⟩⟩⟩, fun hnn => ⟨by decide, fun vs hvs => ⟨⟨rfl, hg.len, rfl, hg.le, by unfold Few; have := hg.l; rw [gone_len] at this; omega, by rw [hvs]; rfl⟩, fun l' k' hl' hk' z hz => ?_⟩⟩⟩
        · rw [wrap_u64] at hz
          have hz : z = i + 1 := by omega
          have hvw : HW Value.bool vs [false] := by rw [hvs]; exact HW.oneV
          have hy0 := (hg.nil hnn).1
          have h1 : LF Value.bool 1 ⟨false, 1, 1, vs⟩ (goneL (ys ++ [r.n])) := by rw [eg, hy0]; exact LF.one hvw rfl
          have f1 := h1.he.flatB
          refine ⟨⟨r.at_, r.e, n, z, v, ⟨false, 1, 1, vs⟩, t⟩, ⟨⟨⟨by show 0 ≤ z; omega, by show z ≤ n; omega⟩, hn, k2, k3⟩, hv, ys ++ [r.n], h1, by show (((ys ++ [r.n]).length : Nat) : Int) = z; simp; omega, rs_more he hlt hr hz hT⟩, by show (n - z).toNat < (n - i).toNat; omega, ?_⟩
          repeat' first
            | with_reducible apply And.intro
            | exact trivial
            | exact rfl
            | assumption
        · rw [wrap_u64] at hz
          have hz : z = i + 1 := by omega
          have hvw : HW Value.bool vs [false] := by rw [hvs]; exact HW.oneV
          have h1 : LF Value.bool 1 ⟨false, l', k', g.c ++ vs⟩ (goneL (ys ++ [r.n])) := by rw [eg]; exact hg.snoc hvw rfl hl' hk'
          have f1 := h1.he.flatB
          refine ⟨⟨r.at_, r.e, n, z, v, ⟨false, l', k', g.c ++ vs⟩, t⟩, ⟨⟨⟨by show 0 ≤ z; omega, by show z ≤ n; omega⟩, hn, k2, k3⟩, hv, ys ++ [r.n], h1, by show (((ys ++ [r.n]).length : Nat) : Int) = z; simp; omega, rs_more he hlt hr hz hT⟩, by show (n - z).toNat < (n - i).toNat; omega, ?_⟩
          repeat' first
            | with_reducible apply And.intro
            | exact trivial
            | exact rfl
            | assumption
    · have hE := rs_end (.inl he) hT
      refine ⟨⟨p, e, n, i, v, g, t⟩, ⟨⟨hp0, hp1⟩, hv, by rw [hE]; exact hg, by rw [hE], by rw [hE]⟩, ?_⟩
      repeat' first
        | with_reducible apply And.intro
        | exact trivial
        | exact rfl
        | assumption
    · have hE := rs_end (.inr hge) hT
      refine ⟨⟨p, e, n, i, v, g, t⟩, ⟨⟨hp0, hp1⟩, hv, by rw [hE]; exact hg, by rw [hE], by rw [hE]⟩, ?_⟩
      repeat' first
        | with_reducible apply And.intro
        | exact trivial
        | exact rfl
        | assumption
  rintro ⟨p, e, n, i, v, g, t⟩ ⟨⟨hp0, hp1⟩, hv, hg, hat, hee⟩
  dsimp only at hp0 hp1 hv hg hat hee ⊢
  have fv := hv.flat
  have fg := hg.he.flatB
  refine ⟨⟨trivial, ⟨xs, hri hp0 hp1 (by decide) (by decide)⟩, ah_of hlen hp1 (by rw [hat, hee]; exact N.dG), by omega⟩, ?_, fun r h => ?_, trivial⟩
  · repeat' first
      | with_reducible apply And.intro
      | exact trivial
      | exact rfl
      | assumption
  have h0 : r = rdC xs p e 8 := h xs (hri hp0 hp1 (by decide) (by decide))
  obtain ⟨n0, n1, n2, n3⟩ := hin hp0 hp1 (by decide) h0
  have h : r = dtC xs := by rw [h0, hat, hee]; rfl
  have bt : (dtC xs).n ≤ 8 := by rw [← h]; exact n1
  refine ⟨⟨⟨r.at_, r.e, r.n, 0, v, g, ⟨true, 0, 0, []⟩⟩, ⟨⟨⟨by show (0 : Int) ≤ 0; decide, n0⟩, by show r.n = _; rw [h], n2, n3⟩, hv, hg, [], .none, rfl, ?_⟩, ?_, ?_⟩, ?_⟩
  · show dTC xs = ⟨(rsC xs 18446744073709551615 (r.n - 0).toNat r.at_ r.e).at_, (rsC xs 18446744073709551615 (r.n - 0).toNat r.at_ r.e).e, [] ++ (rsC xs 18446744073709551615 (r.n - 0).toNat r.at_ r.e).ns⟩
    rw [Int.sub_zero, h]; rfl
  · repeat' first
      | with_reducible apply And.intro
      | exact trivial
      | exact rfl
      | assumption
  · rintro ⟨p, e, n, i, v, g, t⟩ ⟨⟨⟨hi0, hi1⟩, hn, hp0, hp1⟩, hv, hg, ys, ht, hyl, hT⟩
    dsimp only at hi0 hi1 hn hp0 hp1 hv hg ht hyl hT ⊢
    have fv := hv.flat
    have fg := hg.he.flatB
    have ft := ht.he.flat
    refine ⟨fun hlt => ⟨fun he => ⟨⟨trivial, ⟨xs, hri hp0 hp1 (by decide) (by decide)⟩, ah_of hlen hp1 (fun d => N.dT (by rw [hT]; exact rsC_ded d _)), by omega⟩, ?_, fun r hr => ?_, trivial⟩, fun he => ?_⟩, fun hge => ?_⟩
    · repeat' first
        | with_reducible apply And.intro
        | exact trivial
        | exact rfl
        | assumption
    · have hr : r = rdC xs p e 18446744073709551615 := hr xs (hri hp0 hp1 (by decide) (by decide))
      obtain ⟨k0, k1, k2, k3⟩ := hin hp0 hp1 (by decide) hr
      refine ⟨⟨trivial, ⟨k0, by omega⟩, trivial⟩, ⟨⟨rfl, trivial⟩, trivial⟩, fun _ _ => ?_, trivial⟩
      refine ⟨fun hnn => ⟨by simp, fun vs hvs => ⟨fun h => absurd h (by decide), fun _ => ⟨by unfold Few; omega, ?_, fun z hz => ?_⟩⟩⟩, fun hnn => ⟨by simp, fun vs hvs => ⟨⟨rfl, ht.len, rfl, ht.le, by unfold Few; have := ht.l; rw [tips_len] at this; omega, by rw [hvs]; exact (frm_hw r.n).oneK⟩, fun l' k' hl' hk' => ⟨?_, fun z hz => ?_⟩⟩⟩⟩
      · repeat' first
          | with_reducible apply And.intro
          | exact trivial
          | exact rfl
          | assumption
      · rw [wrap_u64] at hz
        have hz : z = i + 1 := by omega
        have hvw : HW (Value.int .u8) vs (frm r.n).l := by rw [hvs]; exact frm_hw r.n
        have hy0 := (ht.nil hnn).1
        have h1 : LF (Value.int .u8) 8 ⟨false, 1, 1, vs⟩ (tipsL (ys ++ [r.n])) := by rw [tips_snoc, hy0]; exact LF.one hvw rfl
        have f1 := h1.he.flat
        refine ⟨⟨r.at_, r.e, n, z, v, g, ⟨false, 1, 1, vs⟩⟩, ⟨⟨⟨by show 0 ≤ z; omega, by show z ≤ n; omega⟩, hn, k2, k3⟩, hv, hg, ys ++ [r.n], h1, by show (((ys ++ [r.n]).length : Nat) : Int) = z; simp; omega, rs_more he hlt hr hz hT⟩, by show (n - z).toNat < (n - i).toNat; omega, ?_⟩
        repeat' first
          | with_reducible apply And.intro
          | exact trivial
          | exact rfl
          | assumption
      · repeat' first
          | with_reducible apply And.intro
          | exact trivial
          | exact rfl
          | assumption
      · rw [wrap_u64] at hz
        have hz : z = i + 1 := by omega
        have hvw : HW (Value.int .u8) vs (frm r.n).l := by rw [hvs]; exact frm_hw r.n
        have h1 : LF (Value.int .u8) 8 ⟨false, l', k', t.c ++ vs⟩ (tipsL (ys ++ [r.n])) := by rw [tips_snoc]; exact ht.snoc hvw rfl hl' hk'
        have f1 := h1.he.flat
        refine ⟨⟨r.at_, r.e, n, z, v, g, ⟨false, l', k', t.c ++ vs⟩⟩, ⟨⟨⟨by show 0 ≤ z; omega, by show z ≤ n; omega⟩, hn, k2, k3⟩, hv, hg, ys ++ [r.n], h1, by show (((ys ++ [r.n]).length : Nat) : Int) = z; simp; omega, rs_more he hlt hr hz hT⟩, by show (n - z).toNat < (n - i).toNat; omega, ?_⟩
        repeat' first
          | with_reducible apply And.intro
          | exact trivial
          | exact rfl
          | assumption
    · have hE := rs_end (.inl he) hT
      refine ⟨⟨p, e, n, i, v, g, t⟩, ⟨⟨hp0, hp1⟩, hv, hg, by rw [hE]; exact ht, by rw [hE], by rw [hE]⟩, ?_⟩
      repeat' first
        | with_reducible apply And.intro
        | exact trivial
        | exact rfl
        | assumption
    · have hE := rs_end (.inr hge) hT
      refine ⟨⟨p, e, n, i, v, g, t⟩, ⟨⟨hp0, hp1⟩, hv, hg, by rw [hE]; exact ht, by rw [hE], by rw [hE]⟩, ?_⟩
      repeat' first
        | with_reducible apply And.intro
        | exact trivial
        | exact rfl
        | assumption
  rintro ⟨p, e, n, i, v, g, t⟩ ⟨⟨hp0, hp1⟩, hv, hg, ht, hat, hee⟩
  dsimp only at hp0 hp1 hv hg ht hat hee ⊢
  have fv := hv.flat
  have fg := hg.he.flatB
  have ft := ht.he.flat
  refine ⟨⟨trivial, ⟨xs, hri hp0 hp1 (by decide) (by decide)⟩, ah_of hlen hp1 (by rw [hat, hee]; exact N.dT), by omega⟩, ?_, fun q0 h0 => ?_, trivial⟩
  · repeat' first
      | with_reducible apply And.intro
      | exact trivial
      | exact rfl
      | assumption
  have h0 : q0 = rdC xs p e 18446744073709551615 := h0 xs (hri hp0 hp1 (by decide) (by decide))
  obtain ⟨a0, b0, c0, d0⟩ := hin hp0 hp1 (by decide) h0
  have h0 : q0 = r0C xs := by rw [h0, hat, hee]; rfl
  refine ⟨⟨trivial, ⟨a0, by omega⟩, trivial⟩, ⟨⟨rfl, trivial⟩, trivial⟩, fun _ _ => ?_, trivial⟩
  refine ⟨⟨trivial, ⟨xs, hri c0 d0 (by decide) (by decide)⟩, ah_of hlen d0 (by rw [h0]; exact N.r0), by omega⟩, ?_, fun q1 h1 => ?_, trivial⟩
  · repeat' first
      | with_reducible apply And.intro
      | exact trivial
      | exact rfl
      | assumption
  have h1 : q1 = rdC xs q0.at_ q0.e 18446744073709551615 := h1 xs (hri c0 d0 (by decide) (by decide))
  obtain ⟨a1, b1, c1, d1⟩ := hin c0 d0 (by decide) h1
  have h1 : q1 = r1C xs := by rw [h1, h0]; rfl
  refine ⟨⟨trivial, ⟨a1, by omega⟩, trivial⟩, ⟨⟨rfl, trivial⟩, trivial⟩, fun _ _ => ?_, trivial⟩
  refine ⟨⟨trivial, ⟨xs, hri c1 d1 (by decide) (by decide)⟩, ah_of hlen d1 (by rw [h1]; exact N.r1), by omega⟩, ?_, fun q2 h2 => ?_, trivial⟩
  · repeat' first
      | with_reducible apply And.intro
      | exact trivial
      | exact rfl
      | assumption
  have h2 : q2 = rdC xs q1.at_ q1.e 18446744073709551615 := h2 xs (hri c1 d1 (by decide) (by decide))
  obtain ⟨a2, b2, c2, d2⟩ := hin c1 d1 (by decide) h2
  have h2 : q2 = r2C xs := by rw [h2, h1]; rfl
  refine ⟨⟨trivial, ⟨a2, by omega⟩, trivial⟩, ⟨⟨rfl, trivial⟩, trivial⟩, fun _ _ => ?_, trivial⟩
  refine ⟨⟨trivial, ⟨xs, hri c2 d2 (by decide) (by decide)⟩, ah_of hlen d2 (by rw [h2]; exact N.r2), by omega⟩, ?_, fun q3 h3 => ?_, trivial⟩
  · repeat' first
      | with_reducible apply And.intro
      | exact trivial
      | exact rfl
      | assumption
  have h3 : q3 = rdC xs q2.at_ q2.e 18446744073709551615 := h3 xs (hri c2 d2 (by decide) (by decide))
  obtain ⟨a3, b3, c3, d3⟩ := hin c2 d2 (by decide) h3
  have h3 : q3 = r3C xs := by rw [h3, h2]; rfl
  refine ⟨⟨trivial, ⟨a3, by omega⟩, trivial⟩, ⟨⟨rfl, trivial⟩, trivial⟩, fun _ _ => ?_, trivial⟩
  refine ⟨⟨trivial, ⟨xs, hri c3 d3 (by decide) (by decide)⟩, ah_of hlen d3 (by rw [h3]; exact N.r3), by omega⟩, ?_, fun q4 h4 => ?_, trivial⟩
  · repeat' first
      | with_reducible apply And.intro
      | exact trivial
      | exact rfl
      | assumption
  have h4 : q4 = rdC xs q3.at_ q3.e 18446744073709551615 := h4 xs (hri c3 d3 (by decide) (by decide))
  obtain ⟨a4, b4, c4, d4⟩ := hin c3 d3 (by decide) h4
  have h4 : q4 = r4C xs := by rw [h4, h3]; rfl
  have hend : endC xs (r4C xs).at_ (r4C xs).e = endC xs q4.at_ q4.e := by rw [h4]
  have err : ∀ e' : Int, e' ≠ 0 → endC xs q4.at_ q4.e = e' → ∀ ys : List Int, Sli (Value.int .u8) 1 a.n a.o a.l a.k a.c ys → endC ys (r4C ys).at_ (r4C ys).e = e' := fun e' _ h1 ys hy => by rw [Sli.uniqI hy hx, hend]; exact h1
  have fin : endC xs q4.at_ q4.e = 0 → ∀ ys : List Int, Sli (Value.int .u8) 1 a.n a.o a.l a.k a.c ys → endC ys (r4C ys).at_ (r4C ys).e = 0 ∧ (LC v (dWC ys).ws ∧ LF Value.bool 1 g (goneL (dGC ys).ns) ∧ LF (Value.int .u8) 8 t (tipsL (dTC ys).ns)) ∧ unfI q0.n = unfI (r0C ys).n ∧ unfI q1.n = unfI (r1C ys).n ∧ unfI q2.n = unfI (r2C ys).n ∧ unfI q3.n = unfI (r3C ys).n ∧ q4.n = (r4C ys).n := fun h ys hy => by
    rw [Sli.uniqI hy hx, hend]
    exact ⟨h, ⟨hv, hg, ht⟩, by rw [h0], by rw [h1], by rw [h2], by rw [h3], by rw [h4]⟩
  refine ⟨fun he x hx => ⟨fun hlt => ⟨⟨5⟩, ⟨by decide, err 5 (by decide) (by rw [he]; exact endC_long (by omega))⟩, ?_⟩, fun hge => ⟨fun h => absurd he h, fun _ => ⟨⟨v, g, t, _, _, _, _, _⟩, fin (by rw [he]; exact endC_ok (by omega)), ?_⟩⟩⟩, fun he => ⟨fun _ => ⟨⟨q4.e⟩, ⟨he, err _ he (endC_err he)⟩, ?_⟩, fun h => absurd he h⟩⟩
  · repeat' first
      | with_reducible apply And.intro
      | exact trivial
      | exact rfl
      | assumption
  · repeat' first
      | with_reducible apply And.intro
      | exact trivial
      | exact rfl
      | assumption
  · repeat' first
      | with_reducible apply And.intro
      | exact trivial
      | exact rfl
      | assumption
theorem s_decP2g : SpecOK Tryz.prog S_decP2g.spec := fun a K hp hq => by
  obtain ⟨⟨xs, hx, hb, h4⟩, hl⟩ := hp
  exact specD_at (an := [some (la_g1 a xs), some (la_g2 a xs), some (la_g3 a xs), none]) envOK (cwN_ok (fun _ h => cwD_ok s_read1g (cwD_ok s_word1g (cwD_ok s_dfrom (cwD_ok s_unf1 h)))) 2) (fun _ => g_decP2g a xs hx hb h4 hl) K ⟨⟨xs, hx, hb, h4⟩, hl⟩ hq
end Go.Proofs.YtalbjjimnhldfaaGreatDoor
