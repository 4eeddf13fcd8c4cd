/- Tables within tables: what is paid as they stand, for each depth. -/
import Derived.Test.YtfkacmmcgncooaaGreatDoorYq1P
section
set_option maxRecDepth 100000
namespace Go.Proofs.YtfkacmmcgncooaaGreatDoor
open Go.Ev
open Go.RowKit (Below)
set_option linter.unusedSectionVars false
variable [Go.Ev.Frozen Tryz.prog]
noncomputable section
def pyFa (a : PyA) (i : Nat) : Int := (pyI i a).x
def pyFb (a : PyA) (i : Nat) : Int := (pyI i a).y
def pyGv (a : PyA) (i : Nat) (x y u v : Int) : Prop := givR (pyI i a).g (pyI i a).p x y u v
def pyOK (d : Nat) (a : PyA) : Prop := ∀ i, i < d -> isGx (pyI i a).g (pyI i a).p /\ smQ (pyI i a).x /\ smQ (pyI i a).y
structure PayD (M : Nat) (a : PyA) (b : XyB) : Prop where
 h : ChL (M := M) (pyFa a) (pyFb a) (pyGv a) (dn M (M + 1)) b.x b.y
def gvOK (v : GvA) : Prop := isGx v.g v.p /\ smQ v.x /\ smQ v.y
def allOK (d : Nat) (a : PyA) : Prop := nth4 d (gvOK a.a) (gvOK a.a /\ gvOK a.b) (gvOK a.a /\ gvOK a.b /\ gvOK a.c) (gvOK a.a /\ gvOK a.b /\ gvOK a.c /\ gvOK a.e)
def S_pays (M : Nat) : SpecD where
 f := 20
 α := PyA
 args _ := [.pointer (some ⟨12, 0, none⟩)]
 R a := pyR (M + 1) a
 n := popN (M + 1)
 pre a := allOK (M + 1) a
 outs := [⟨XyB, fun a b => PayD M a b, fun _ _ => sc (popN (M + 1)) 2, fun _ b => [(popN (M + 1), .p (.row [tgI .i64 b.x, tgI .i64 b.y] 3 .gro))], fun _ _ => popN (M + 1) + 1, fun _ _ => []⟩]
 pick _ _ := 0
 find _ _ := none
end
theorem allOK1 {a : PyA} (h : allOK 1 a) : pyOK 1 a := fun i hi => by
 match i, hi with
 | 0, _ => exact h
theorem allOK2 {a : PyA} (h : allOK 2 a) : pyOK 2 a := fun i hi => by
 match i, hi with
 | 0, _ => exact h.1
 | 1, _ => exact h.2
theorem allOK3 {a : PyA} (h : allOK 3 a) : pyOK 3 a := fun i hi => by
 match i, hi with
 | 0, _ => exact h.1
 | 1, _ => exact h.2.1
 | 2, _ => exact h.2.2
theorem allOK4 {a : PyA} (h : allOK 4 a) : pyOK 4 a := fun i hi => by
 match i, hi with
 | 0, _ => exact h.1
 | 1, _ => exact h.2.1
 | 2, _ => exact h.2.2.1
 | 3, _ => exact h.2.2.2
theorem sem_callsG {f : FuncId} {fn : Func} {c : Code} (hf : Tryz.prog.funcs[f]? = some fn) (hb : fn.body = some c) {abs args : List Value} {A B : AW} {v : Value} (h : FnSem Tryz.prog f abs A v B) {σ : Sg} {w : World} (hR : Rel Tryz.prog σ A w) (ha : VRL σ abs args)
  (hro : ∀ j o, A.heap.get j = some o -> mayW o = false) : Calls Tryz.prog f ⟨args⟩ w fun e w' => ∃ v' σ', e = .returned v' /\ VR σ' v v' /\ Rel Tryz.prog σ' B w' /\ Step σ A w σ' B w' /\ Below w.heap.size w w' := by
 have hent := entered (P := Tryz.prog) (envOK.name f fn hf) hf hb ⟨args⟩ w
 have hnw : ∀ b, ¬ Wr σ A b := by
  rintro b ⟨i, d, o, _, hg, hm⟩
  rw [hro i o hg] at hm; cases hm
 rcases h σ w args hR ha with ⟨v', w', e, _⟩ | ⟨g, as_, e, hC⟩
 ·rw [hent] at e; cases e
 ·rw [hent] at e; cases e
  refine Calls.mono hC fun en w' he => ?_
  cases en with
  | returned v' =>
   obtain ⟨σ', hvr, hR', hS⟩ := he
   exact ⟨v', σ', rfl, hvr, hR', hS, hS.os, hS.tape, hS.output, hS.size, fun k hk => hS.block k hk (hnw k)⟩
  | _ => exact he.elim
theorem ro_mem {R : List (Nat × PO)} {n : Nat} (h : lall (fun p => bnot (mayW p.2.ao)) R = true) : ∀ j o, (mem R n).heap.get j = some o -> mayW o = false := fun j o hj => by
 obtain ⟨y, hy, rfl⟩ := tput_get (g := PO.ao) (l := R) hj
 have := lall_mem h _ hy
 simpa [bnot_eq] using this
theorem two_of {σ : Sg} {A : AW} {w : World} (hR : Rel Tryz.prog σ A w) {i nb d : Nat} {x y : Int} {m : Md} (hm : m.writes = true) (hs : σ i = some (nb, d)) (hg : A.heap.get i = some (.row [tgI .i64 x, tgI .i64 y] 3 m)) : Two w nb x y := by
 obtain ⟨o, h1, h2⟩ := hR.obj i nb d _ hs hg rfl
 cases o with
 | cells cs e fz =>
  obtain ⟨q1, q2⟩ := h2
  rcases q1 with q1 | q1
  ·rw [hm] at q1; cases q1
  subst q1
  obtain ⟨us, zs, t1, t2, -⟩ := q2.cells
  cases t2 with
  | cons a1 t2 =>
   cases t2 with
   | cons a2 t2 =>
    cases t2
    obtain rfl := sym_int a1
    obtain rfl := sym_int a2
    exact ⟨cs, fz, zs, h1, t1, q2.free hm⟩
 | _ => exact h2.elim
theorem clone_run {σ : Sg} {A : AW} {W : World} (hR : Rel Tryz.prog σ A W) {b c : Nat} {x y : Int} {cs : Array Value} {ty : TypeId} {fz : Nat × Nat} {zs : List Value} (hb : W.heap[b]? = some (.cells cs ty fz)) (hc : cs.toList = .int .i64 x :: .int .i64 y :: zs) (h2 : 2 <= c) :
  Calls Tryz.prog 61 #[.slice (some ⟨b, 0, none⟩) 2 c] W fun e W' => ∃ nb c', e = .returned (.slice (some ⟨nb, 0, none⟩) 2 c') /\ 2 <= c' /\ W.heap.size <= nb /\ Two W' nb x y /\ Below W.heap.size W W' := by
 have hng : Tryz.prog.globals.size = 12 := by kernel_rfl
 obtain ⟨c0, hc0⟩ : ∃ c0, c0 = tgI .i64 x :: tgI .i64 y :: zs.map (fun _ => unk) := ⟨_, rfl⟩
 have hvr : ∀ σ, VRL σ c0 cs.toList := fun σ => by
  rw [hc0, hc]
  refine .cons (tgI_vr _ _) (.cons (tgI_vr _ _) ?_)
  clear hc hc0
  induction zs with
  | nil => exact .nil
  | cons z zs ih => exact .cons (.any trivial) ih
 have hflat : FlatL c0 := fun v hv => by
  rw [hc0] at hv
  rcases List.mem_cons.1 hv with e | hv
  ·subst e; rfl
  rcases List.mem_cons.1 hv with e | hv
  ·subst e; rfl
  obtain ⟨z, -, rfl⟩ := List.mem_map.1 hv
  rfl
 obtain ⟨v, R', n', ⟨q, hq, rfl, rfl, rfl⟩, -, hsem⟩ := s_cl2 ⟨false, 0, 2, c, c0⟩ (fun v R' n' => ∃ q : XyB, lwin c0 0 2 = [tgI .i64 q.x, tgI .i64 q.y] /\ v = sc (12 + 1) 2 /\ R' = clO q /\ n' = 12 + 2)
  ⟨⟨h2, by show 0 + 2 <= c0.length; rw [hc0]; simp, hflat⟩, x, y, by show lwin c0 0 2 = _; rw [hc0]; rfl⟩ ⟨fun q hq => ⟨q, hq, rfl, rfl, rfl⟩, trivial⟩
 have hq : [tgI .i64 x, tgI .i64 y] = [tgI .i64 q.x, tgI .i64 q.y] := by rw [← hq, hc0]; rfl
 have e5 : x = q.x := by injection hq with h1 h2; injection h1 with _ h1; injection h1
 have e6 : y = q.y := by injection hq with h1 h2; injection h2 with h2 _; injection h2 with _ h2; injection h2
 have hbare := hR.bare
 rw [hng] at hbare
 obtain ⟨hR1, hro⟩ := Rel.addRo (i := 12) (n' := 12 + 1) hbare (fun j o h => by cases h) (if_neg (by omega)) (by omega) (by omega) (by omega) c0 3 (some b) (fun b' e => by cases e; exact ⟨cs, ty, fz, hb, hvr⟩)
 refine Calls.mono (sem_callsG (fn := Tryz.f61) (by kernel_rfl) rfl hsem hR1 (.cons (.mn (d := 0) rfl (if_pos rfl)) .nil) hro) ?_
 rintro e W' ⟨v', σ', rfl, hv', hR', hS, hB⟩
 obtain ⟨nb, d, hs, rfl⟩ := hv'.slice_inv
 have hg : (mem (clO q) (12 + 2)).heap.get (12 + 1) = some (.row [tgI .i64 q.x, tgI .i64 q.y] 3 (.grown 2)) := by kernel_rfl
 refine ⟨nb, 2 + d, rfl, by omega, ?_, by rw [e5, e6]; exact two_of hR' rfl hs hg, hB⟩
 refine Nat.le_of_not_lt fun hlt => ?_
 obtain ⟨i, d', o, k1, k2, k3⟩ := hS.new (12 + 1) nb d _ (Nat.le_refl _) hs hg rfl hlt
 rw [hro i o k2] at k3
 cases k3
end Go.Proofs.YtfkacmmcgncooaaGreatDoor
end

/- Tables within tables: what is paid as they stand is as is told. -/
section
set_option maxRecDepth 100000
namespace Go.Proofs.YtfkacmmcgncooaaGreatDoor
open Go.Ev
open Go.RowKit (Below)
set_option linter.unusedSectionVars false
variable [Frozen Tryz.prog]
def twR (i : Nat) (x y : Int) : Nat × PO := (i, .p (.row [tgI .i64 x, tgI .i64 y] 3 .gro))
theorem or_two {σ : Sg} {x y : Int} {c : Nat} {cs : Array Value} {fz : Nat × Nat} {zs : List Value} (h2 : cs.toList = .int .i64 x :: .int .i64 y :: zs) : OR Tryz.prog σ c (.row [tgI .i64 x, tgI .i64 y] 3 .gro) (.cells cs 3 fz) :=
 ⟨.inl rfl, ⟨[.int .i64 x, .int .i64 y], zs, h2, .cons (tgI_vr _ _) (.cons (tgI_vr _ _) .nil), fun h => (by cases h)⟩, fun h => (by cases h), fun _ h => (by cases h), fun h => (by cases h)⟩
theorem sl_two {σ : Sg} {i nb c : Nat} (hc : 2 <= c) (hs : σ i = some (nb, c - 2)) : VR σ (sc i 2) (.slice (some ⟨nb, 0, none⟩) 2 c) := by
 have := VR.slice (σ := σ) (o := 0) (l := 2) (c := 2) hs
 rw [show 2 + (c - 2) = c by omega] at this
 exact this
theorem giv_ok {g : RuA} {p : PoA} {x y u v : Int} (h : givR g p x y u v) (hx : 0 <= x) (hy : 0 <= y) : (0 <= u /\ 0 <= v) /\ u + v = x + y := by
 obtain ⟨k, j, hi, ⟨-, rfl, rfl⟩ | ⟨-, h⟩⟩ := h
 ·exact ⟨⟨hx, hy⟩, rfl⟩
 ·have := payR_ok h (by omega)
  omega
theorem pay_uniq : (payT.all fun e => payT.all fun q => !(Nat.beq e.1 q.1 && Nat.beq e.2.1 q.2.1) || (decide (e.2.2.1 = q.2.2.1) && decide (e.2.2.2.2 = q.2.2.2.2))) = true := by kernel_rfl
theorem payR_fun {k j : Nat} {w x y u v : Int} (h : payR k j w x y) (h' : payR k j w u v) : x = u /\ y = v := by
 have uq : ∀ {a b c d e f : Int}, (k, j, a, b, c) ∈ payT -> (k, j, d, e, f) ∈ payT -> a = d /\ c = f := fun h1 h2 => by
  have := List.all_eq_true.1 (List.all_eq_true.1 pay_uniq _ h1) _ h2
  simp only [Nat.beq_refl, Bool.and_self, Bool.not_true, Bool.false_or, Bool.and_eq_true, decide_eq_true_eq] at this
  exact this
 rcases h with ⟨h1, rfl, rfl⟩ | ⟨a, h1, h2, h3⟩ <;> rcases h' with ⟨q1, rfl, rfl⟩ | ⟨b, q1, q2, q3⟩
 ·exact ⟨rfl, rfl⟩
 ·exact absurd (uq h1 q1).2 (by decide)
 ·exact absurd (uq h1 q1).2 (by decide)
 ·obtain ⟨rfl, -⟩ := uq h1 q1
  have : x = u := h2.trans q2.symm
  subst this
  exact ⟨rfl, h3.trans q3.symm⟩
theorem giv_fun {g : RuA} {p : PoA} {x y u v u' v' : Int} (h : givR g p x y u v) (h' : givR g p x y u' v') : u = u' /\ v = v' := by
 obtain ⟨k, j, hi, h⟩ := h
 obtain ⟨k', j', hi', h'⟩ := h'
 obtain ⟨rfl, rfl⟩ := isG_inj hi hi'
 rcases h with ⟨h1, rfl, rfl⟩ | ⟨h1, h⟩ <;> rcases h' with ⟨h2, rfl, rfl⟩ | ⟨h2, h'⟩
 ·exact ⟨rfl, rfl⟩
 ·omega
 ·omega
 ·exact payR_fun h h'
theorem giv_ex {g : RuA} {p : PoA} (h : isGx g p) (x y : Int) : ∃ u v, givR g p x y u v := by
 obtain ⟨k, j, hi⟩ := h
 by_cases ht : turnG k j < 0
 ·rcases pay_of hi.1 ht with ⟨a, ha⟩ | ha
  ·exact ⟨_, _, k, j, hi, .inr ⟨ht, .inr ⟨a, ha, rfl, rfl⟩⟩⟩
  ·exact ⟨_, _, k, j, hi, .inr ⟨ht, .inl ⟨ha, rfl, rfl⟩⟩⟩
 ·exact ⟨x, y, k, j, hi, .inl ⟨by omega, rfl, rfl⟩⟩
theorem chL_fun {M : Nat} {a : PyA} : ∀ {pre : List (Fin (M + 1))} {x y u v : Int}, ChL (pyFa a) (pyFb a) (pyGv a) pre x y -> ChL (pyFa a) (pyFb a) (pyGv a) pre u v -> x = u /\ y = v := by
 intro pre x y u v h
 induction h generalizing u v with
 | nil =>
  intro h'
  generalize hp : ([] : List (Fin (M + 1))) = q at h'
  cases h' with
  | nil => exact ⟨rfl, rfl⟩
  | snoc => exact absurd hp.symm (by simp)
 | @snoc pre t x y u1 v1 h1 h2 ih =>
  intro h'
  generalize hp : pre ++ [t] = q at h'
  cases h' with
  | nil => exact absurd hp (by simp)
  | @snoc pre' t' x' y' _ _ k1 k2 =>
   obtain ⟨e1, e2⟩ := List.append_inj' hp rfl
   cases e2
   subst e1
   obtain ⟨rfl, rfl⟩ := ih k1
   exact giv_fun h2 k2
theorem chL_ex {M : Nat} {a : PyA} (h : pyOK (M + 1) a) : ∀ k, k <= M + 1 -> ∃ x y, ChL (M := M) (pyFa a) (pyFb a) (pyGv a) (dn M k) x y := by
 intro k
 induction k with
 | zero => intro _; exact ⟨0, 0, .nil⟩
 | succ k ih =>
  intro hk
  obtain ⟨x, y, hc⟩ := ih (by omega)
  obtain ⟨u, v, hg⟩ := giv_ex (h (M - k) (by omega)).1 (pyFa a (M - k) + x) (pyFb a (M - k) + y)
  rw [dn_succ]
  exact ⟨u, v, .snoc hc hg⟩
theorem gives_run10 (a : PyA) (hp : isGx (pyI 0 a).g (pyI 0 a).p) {σ : Sg} {w W : World} (hR : Rel Tryz.prog σ (mem (pyR 1 a) (popN 1)) w) {bl dl nb c : Nat} {x y : Int} (hl : σ (12 + 1) = some (bl, dl)) (hB : Below w.heap.size w W) (hnb : w.heap.size <= nb) (hc : 2 <= c) (hT : Two W nb x y) (hx : Sm x) (hy : Sm y) :
  Calls Tryz.prog 62 #[.pointer (some ⟨bl, 0 * 10, none⟩), .slice (some ⟨nb, 0, none⟩) 2 c] W fun e W' => ∃ nb' c' u v, e = .returned (.slice (some ⟨nb', 0, none⟩) 2 c') /\ 2 <= c' /\ pyGv a 0 x y u v /\ (nb' = nb ∨ W.heap.size <= nb') /\ Two W' nb' u v /\ Below W.heap.size W W' := by
 have hT0 := hT
 obtain ⟨cs, fz, zs, h1, h2, -⟩ := hT
 obtain ⟨hR2, -⟩ := hR.newAt (o := .row [tgI .i64 x, tgI .i64 y] 3 .gro) (d := c - 2) hB hnb h1 (or_two h2)
 obtain ⟨v, R', n', hK, -, hsem⟩ := s_pgv10 ⟨a, x, y⟩ (fun v R' n' => (v = sc (popN 1) 2 /\ ∃ k j, isG (pyI 0 a).g (pyI 0 a).p k j /\ 0 <= turnG k j) ∨ ∃ b : XyB, (∃ k j, isG (pyI 0 a).g (pyI 0 a).p k j /\ turnG k j < 0 /\ payR k j (x + y) b.x b.y) /\ v = sc (popN 1 + 1) 2 /\ R' = [(popN 1 + 1, .p (.row [tgI .i64 b.x, tgI .i64 b.y] 3 (.grown 2)))] /\ n' = popN 1 + 2)
  ⟨hp, hx, hy⟩ ⟨fun _ h => .inl ⟨rfl, h⟩, fun b h => .inr ⟨b, h, rfl, rfl, rfl⟩, trivial⟩
 have hro : ∀ j o, (mem (twR (popN 1) x y :: pyR 1 a) (popN 1 + 1)).heap.get j = some o -> mayW o = false := ro_mem (by kernel_rfl)
 refine Calls.mono (sem_callsG (fn := Tryz.f62) (by kernel_rfl) rfl hsem hR2 (.cons (.ptr ((ext_other _ (by show 12 + 1 ≠ popN 1; decide)).trans hl)) (.cons (sl_two hc (ext_self _ _)) .nil)) hro) ?_
 rintro e W' ⟨v', σ', rfl, hv', hR', hS, hB'⟩
 rcases hK with ⟨rfl, k, j, hi, ht⟩ | ⟨b, ⟨k, j, hi, ht, hpay⟩, rfl, rfl, rfl⟩
 ·obtain ⟨nb', d, hs, rfl⟩ := hv'.slice_inv
  have he := hS.ext (popN 1) (Nat.lt_succ_self _)
  rw [hs] at he
  have he : some (nb', d) = some (nb, c - 2) := he.trans (ext_self _ _)
  cases he
  exact ⟨nb, 2 + (c - 2), x, y, rfl, by omega, ⟨k, j, hi, .inl ⟨ht, rfl, rfl⟩⟩, .inl rfl, hT0.below hB' hT0.lt, hB'⟩
 ·obtain ⟨nb', d, hs, rfl⟩ := hv'.slice_inv
  have hg : (mem [(popN 1 + 1, PO.p (.row [tgI .i64 b.x, tgI .i64 b.y] 3 (.grown 2)))] (popN 1 + 2)).heap.get (popN 1 + 1) = some (.row [tgI .i64 b.x, tgI .i64 b.y] 3 (.grown 2)) := by kernel_rfl
  refine ⟨nb', 2 + d, b.x, b.y, rfl, by omega, ⟨k, j, hi, .inr ⟨ht, hpay⟩⟩, .inr (Nat.le_of_not_lt fun hlt => ?_), two_of hR' rfl hs hg, hB'⟩
  obtain ⟨i, d', o, k1, k2, k3⟩ := hS.new (popN 1 + 1) nb' d _ (Nat.le_refl _) hs hg rfl hlt
  rw [hro i o k2] at k3
  cases k3
theorem gives_run20 (a : PyA) (hp : isGx (pyI 0 a).g (pyI 0 a).p) {σ : Sg} {w W : World} (hR : Rel Tryz.prog σ (mem (pyR 2 a) (popN 2)) w) {bl dl nb c : Nat} {x y : Int} (hl : σ (12 + 1) = some (bl, dl)) (hB : Below w.heap.size w W) (hnb : w.heap.size <= nb) (hc : 2 <= c) (hT : Two W nb x y) (hx : Sm x) (hy : Sm y) :
  Calls Tryz.prog 62 #[.pointer (some ⟨bl, 0 * 10, none⟩), .slice (some ⟨nb, 0, none⟩) 2 c] W fun e W' => ∃ nb' c' u v, e = .returned (.slice (some ⟨nb', 0, none⟩) 2 c') /\ 2 <= c' /\ pyGv a 0 x y u v /\ (nb' = nb ∨ W.heap.size <= nb') /\ Two W' nb' u v /\ Below W.heap.size W W' := by
 have hT0 := hT
 obtain ⟨cs, fz, zs, h1, h2, -⟩ := hT
 obtain ⟨hR2, -⟩ := hR.newAt (o := .row [tgI .i64 x, tgI .i64 y] 3 .gro) (d := c - 2) hB hnb h1 (or_two h2)
 obtain ⟨v, R', n', hK, -, hsem⟩ := s_pgv20 ⟨a, x, y⟩ (fun v R' n' => (v = sc (popN 2) 2 /\ ∃ k j, isG (pyI 0 a).g (pyI 0 a).p k j /\ 0 <= turnG k j) ∨ ∃ b : XyB, (∃ k j, isG (pyI 0 a).g (pyI 0 a).p k j /\ turnG k j < 0 /\ payR k j (x + y) b.x b.y) /\ v = sc (popN 2 + 1) 2 /\ R' = [(popN 2 + 1, .p (.row [tgI .i64 b.x, tgI .i64 b.y] 3 (.grown 2)))] /\ n' = popN 2 + 2)
  ⟨hp, hx, hy⟩ ⟨fun _ h => .inl ⟨rfl, h⟩, fun b h => .inr ⟨b, h, rfl, rfl, rfl⟩, trivial⟩
 have hro : ∀ j o, (mem (twR (popN 2) x y :: pyR 2 a) (popN 2 + 1)).heap.get j = some o -> mayW o = false := ro_mem (by kernel_rfl)
 refine Calls.mono (sem_callsG (fn := Tryz.f62) (by kernel_rfl) rfl hsem hR2 (.cons (.ptr ((ext_other _ (by show 12 + 1 ≠ popN 2; decide)).trans hl)) (.cons (sl_two hc (ext_self _ _)) .nil)) hro) ?_
 rintro e W' ⟨v', σ', rfl, hv', hR', hS, hB'⟩
 rcases hK with ⟨rfl, k, j, hi, ht⟩ | ⟨b, ⟨k, j, hi, ht, hpay⟩, rfl, rfl, rfl⟩
 ·obtain ⟨nb', d, hs, rfl⟩ := hv'.slice_inv
  have he := hS.ext (popN 2) (Nat.lt_succ_self _)
  rw [hs] at he
  have he : some (nb', d) = some (nb, c - 2) := he.trans (ext_self _ _)
  cases he
  exact ⟨nb, 2 + (c - 2), x, y, rfl, by omega, ⟨k, j, hi, .inl ⟨ht, rfl, rfl⟩⟩, .inl rfl, hT0.below hB' hT0.lt, hB'⟩
 ·obtain ⟨nb', d, hs, rfl⟩ := hv'.slice_inv
  have hg : (mem [(popN 2 + 1, PO.p (.row [tgI .i64 b.x, tgI .i64 b.y] 3 (.grown 2)))] (popN 2 + 2)).heap.get (popN 2 + 1) = some (.row [tgI .i64 b.x, tgI .i64 b.y] 3 (.grown 2)) := by kernel_rfl
  refine ⟨nb', 2 + d, b.x, b.y, rfl, by omega, ⟨k, j, hi, .inr ⟨ht, hpay⟩⟩, .inr (Nat.le_of_not_lt fun hlt => ?_), two_of hR' rfl hs hg, hB'⟩
  obtain ⟨i, d', o, k1, k2, k3⟩ := hS.new (popN 2 + 1) nb' d _ (Nat.le_refl _) hs hg rfl hlt
  rw [hro i o k2] at k3
  cases k3
theorem gives_run21 (a : PyA) (hp : isGx (pyI 1 a).g (pyI 1 a).p) {σ : Sg} {w W : World} (hR : Rel Tryz.prog σ (mem (pyR 2 a) (popN 2)) w) {bl dl nb c : Nat} {x y : Int} (hl : σ (12 + 1) = some (bl, dl)) (hB : Below w.heap.size w W) (hnb : w.heap.size <= nb) (hc : 2 <= c) (hT : Two W nb x y) (hx : Sm x) (hy : Sm y) :
  Calls Tryz.prog 62 #[.pointer (some ⟨bl, 1 * 10, none⟩), .slice (some ⟨nb, 0, none⟩) 2 c] W fun e W' => ∃ nb' c' u v, e = .returned (.slice (some ⟨nb', 0, none⟩) 2 c') /\ 2 <= c' /\ pyGv a 1 x y u v /\ (nb' = nb ∨ W.heap.size <= nb') /\ Two W' nb' u v /\ Below W.heap.size W W' := by
 have hT0 := hT
 obtain ⟨cs, fz, zs, h1, h2, -⟩ := hT
 obtain ⟨hR2, -⟩ := hR.newAt (o := .row [tgI .i64 x, tgI .i64 y] 3 .gro) (d := c - 2) hB hnb h1 (or_two h2)
 obtain ⟨v, R', n', hK, -, hsem⟩ := s_pgv21 ⟨a, x, y⟩ (fun v R' n' => (v = sc (popN 2) 2 /\ ∃ k j, isG (pyI 1 a).g (pyI 1 a).p k j /\ 0 <= turnG k j) ∨ ∃ b : XyB, (∃ k j, isG (pyI 1 a).g (pyI 1 a).p k j /\ turnG k j < 0 /\ payR k j (x + y) b.x b.y) /\ v = sc (popN 2 + 1) 2 /\ R' = [(popN 2 + 1, .p (.row [tgI .i64 b.x, tgI .i64 b.y] 3 (.grown 2)))] /\ n' = popN 2 + 2)
  ⟨hp, hx, hy⟩ ⟨fun _ h => .inl ⟨rfl, h⟩, fun b h => .inr ⟨b, h, rfl, rfl, rfl⟩, trivial⟩
 have hro : ∀ j o, (mem (twR (popN 2) x y :: pyR 2 a) (popN 2 + 1)).heap.get j = some o -> mayW o = false := ro_mem (by kernel_rfl)
 refine Calls.mono (sem_callsG (fn := Tryz.f62) (by kernel_rfl) rfl hsem hR2 (.cons (.ptr ((ext_other _ (by show 12 + 1 ≠ popN 2; decide)).trans hl)) (.cons (sl_two hc (ext_self _ _)) .nil)) hro) ?_
 rintro e W' ⟨v', σ', rfl, hv', hR', hS, hB'⟩
 rcases hK with ⟨rfl, k, j, hi, ht⟩ | ⟨b, ⟨k, j, hi, ht, hpay⟩, rfl, rfl, rfl⟩
 ·obtain ⟨nb', d, hs, rfl⟩ := hv'.slice_inv
  have he := hS.ext (popN 2) (Nat.lt_succ_self _)
  rw [hs] at he
  have he : some (nb', d) = some (nb, c - 2) := he.trans (ext_self _ _)
  cases he
  exact ⟨nb, 2 + (c - 2), x, y, rfl, by omega, ⟨k, j, hi, .inl ⟨ht, rfl, rfl⟩⟩, .inl rfl, hT0.below hB' hT0.lt, hB'⟩
 ·obtain ⟨nb', d, hs, rfl⟩ := hv'.slice_inv
  have hg : (mem [(popN 2 + 1, PO.p (.row [tgI .i64 b.x, tgI .i64 b.y] 3 (.grown 2)))] (popN 2 + 2)).heap.get (popN 2 + 1) = some (.row [tgI .i64 b.x, tgI .i64 b.y] 3 (.grown 2)) := by kernel_rfl
  refine ⟨nb', 2 + d, b.x, b.y, rfl, by omega, ⟨k, j, hi, .inr ⟨ht, hpay⟩⟩, .inr (Nat.le_of_not_lt fun hlt => ?_), two_of hR' rfl hs hg, hB'⟩
  obtain ⟨i, d', o, k1, k2, k3⟩ := hS.new (popN 2 + 1) nb' d _ (Nat.le_refl _) hs hg rfl hlt
  rw [hro i o k2] at k3
  cases k3
theorem gives_run30 (a : PyA) (hp : isGx (pyI 0 a).g (pyI 0 a).p) {σ : Sg} {w W : World} (hR : Rel Tryz.prog σ (mem (pyR 3 a) (popN 3)) w) {bl dl nb c : Nat} {x y : Int} (hl : σ (12 + 1) = some (bl, dl)) (hB : Below w.heap.size w W) (hnb : w.heap.size <= nb) (hc : 2 <= c) (hT : Two W nb x y) (hx : Sm x) (hy : Sm y) :
  Calls Tryz.prog 62 #[.pointer (some ⟨bl, 0 * 10, none⟩), .slice (some ⟨nb, 0, none⟩) 2 c] W fun e W' => ∃ nb' c' u v, e = .returned (.slice (some ⟨nb', 0, none⟩) 2 c') /\ 2 <= c' /\ pyGv a 0 x y u v /\ (nb' = nb ∨ W.heap.size <= nb') /\ Two W' nb' u v /\ Below W.heap.size W W' := by
 have hT0 := hT
 obtain ⟨cs, fz, zs, h1, h2, -⟩ := hT
 obtain ⟨hR2, -⟩ := hR.newAt (o := .row [tgI .i64 x, tgI .i64 y] 3 .gro) (d := c - 2) hB hnb h1 (or_two h2)
 obtain ⟨v, R', n', hK, -, hsem⟩ := s_pgv30 ⟨a, x, y⟩ (fun v R' n' => (v = sc (popN 3) 2 /\ ∃ k j, isG (pyI 0 a).g (pyI 0 a).p k j /\ 0 <= turnG k j) ∨ ∃ b : XyB, (∃ k j, isG (pyI 0 a).g (pyI 0 a).p k j /\ turnG k j < 0 /\ payR k j (x + y) b.x b.y) /\ v = sc (popN 3 + 1) 2 /\ R' = [(popN 3 + 1, .p (.row [tgI .i64 b.x, tgI .i64 b.y] 3 (.grown 2)))] /\ n' = popN 3 + 2)
  ⟨hp, hx, hy⟩ ⟨fun _ h => .inl ⟨rfl, h⟩, fun b h => .inr ⟨b, h, rfl, rfl, rfl⟩, trivial⟩
 have hro : ∀ j o, (mem (twR (popN 3) x y :: pyR 3 a) (popN 3 + 1)).heap.get j = some o -> mayW o = false := ro_mem (by kernel_rfl)
 refine Calls.mono (sem_callsG (fn := Tryz.f62) (by kernel_rfl) rfl hsem hR2 (.cons (.ptr ((ext_other _ (by show 12 + 1 ≠ popN 3; decide)).trans hl)) (.cons (sl_two hc (ext_self _ _)) .nil)) hro) ?_
 rintro e W' ⟨v', σ', rfl, hv', hR', hS, hB'⟩
 rcases hK with ⟨rfl, k, j, hi, ht⟩ | ⟨b, ⟨k, j, hi, ht, hpay⟩, rfl, rfl, rfl⟩
 ·obtain ⟨nb', d, hs, rfl⟩ := hv'.slice_inv
  have he := hS.ext (popN 3) (Nat.lt_succ_self _)
  rw [hs] at he
  have he : some (nb', d) = some (nb, c - 2) := he.trans (ext_self _ _)
  cases he
  exact ⟨nb, 2 + (c - 2), x, y, rfl, by omega, ⟨k, j, hi, .inl ⟨ht, rfl, rfl⟩⟩, .inl rfl, hT0.below hB' hT0.lt, hB'⟩
 ·obtain ⟨nb', d, hs, rfl⟩ := hv'.slice_inv
  have hg : (mem [(popN 3 + 1, PO.p (.row [tgI .i64 b.x, tgI .i64 b.y] 3 (.grown 2)))] (popN 3 + 2)).heap.get (popN 3 + 1) = some (.row [tgI .i64 b.x, tgI .i64 b.y] 3 (.grown 2)) := by kernel_rfl
  refine ⟨nb', 2 + d, b.x, b.y, rfl, by omega, ⟨k, j, hi, .inr ⟨ht, hpay⟩⟩, .inr (Nat.le_of_not_lt fun hlt => ?_), two_of hR' rfl hs hg, hB'⟩
  obtain ⟨i, d', o, k1, k2, k3⟩ := hS.new (popN 3 + 1) nb' d _ (Nat.le_refl _) hs hg rfl hlt
  rw [hro i o k2] at k3
  cases k3
theorem gives_run31 (a : PyA) (hp : isGx (pyI 1 a).g (pyI 1 a).p) {σ : Sg} {w W : World} (hR : Rel Tryz.prog σ (mem (pyR 3 a) (popN 3)) w) {bl dl nb c : Nat} {x y : Int} (hl : σ (12 + 1) = some (bl, dl)) (hB : Below w.heap.size w W) (hnb : w.heap.size <= nb) (hc : 2 <= c) (hT : Two W nb x y) (hx : Sm x) (hy : Sm y) :
  Calls Tryz.prog 62 #[.pointer (some ⟨bl, 1 * 10, none⟩), .slice (some ⟨nb, 0, none⟩) 2 c] W fun e W' => ∃ nb' c' u v, e = .returned (.slice (some ⟨nb', 0, none⟩) 2 c') /\ 2 <= c' /\ pyGv a 1 x y u v /\ (nb' = nb ∨ W.heap.size <= nb') /\ Two W' nb' u v /\ Below W.heap.size W W' := by
 have hT0 := hT
 obtain ⟨cs, fz, zs, h1, h2, -⟩ := hT
 obtain ⟨hR2, -⟩ := hR.newAt (o := .row [tgI .i64 x, tgI .i64 y] 3 .gro) (d := c - 2) hB hnb h1 (or_two h2)
 obtain ⟨v, R', n', hK, -, hsem⟩ := s_pgv31 ⟨a, x, y⟩ (fun v R' n' => (v = sc (popN 3) 2 /\ ∃ k j, isG (pyI 1 a).g (pyI 1 a).p k j /\ 0 <= turnG k j) ∨ ∃ b : XyB, (∃ k j, isG (pyI 1 a).g (pyI 1 a).p k j /\ turnG k j < 0 /\ payR k j (x + y) b.x b.y) /\ v = sc (popN 3 + 1) 2 /\ R' = [(popN 3 + 1, .p (.row [tgI .i64 b.x, tgI .i64 b.y] 3 (.grown 2)))] /\ n' = popN 3 + 2)
  ⟨hp, hx, hy⟩ ⟨fun _ h => .inl ⟨rfl, h⟩, fun b h => .inr ⟨b, h, rfl, rfl, rfl⟩, trivial⟩
 have hro : ∀ j o, (mem (twR (popN 3) x y :: pyR 3 a) (popN 3 + 1)).heap.get j = some o -> mayW o = false := ro_mem (by kernel_rfl)
 refine Calls.mono (sem_callsG (fn := Tryz.f62) (by kernel_rfl) rfl hsem hR2 (.cons (.ptr ((ext_other _ (by show 12 + 1 ≠ popN 3; decide)).trans hl)) (.cons (sl_two hc (ext_self _ _)) .nil)) hro) ?_
 rintro e W' ⟨v', σ', rfl, hv', hR', hS, hB'⟩
 rcases hK with ⟨rfl, k, j, hi, ht⟩ | ⟨b, ⟨k, j, hi, ht, hpay⟩, rfl, rfl, rfl⟩
 ·obtain ⟨nb', d, hs, rfl⟩ := hv'.slice_inv
  have he := hS.ext (popN 3) (Nat.lt_succ_self _)
  rw [hs] at he
  have he : some (nb', d) = some (nb, c - 2) := he.trans (ext_self _ _)
  cases he
  exact ⟨nb, 2 + (c - 2), x, y, rfl, by omega, ⟨k, j, hi, .inl ⟨ht, rfl, rfl⟩⟩, .inl rfl, hT0.below hB' hT0.lt, hB'⟩
 ·obtain ⟨nb', d, hs, rfl⟩ := hv'.slice_inv
  have hg : (mem [(popN 3 + 1, PO.p (.row [tgI .i64 b.x, tgI .i64 b.y] 3 (.grown 2)))] (popN 3 + 2)).heap.get (popN 3 + 1) = some (.row [tgI .i64 b.x, tgI .i64 b.y] 3 (.grown 2)) := by kernel_rfl
  refine ⟨nb', 2 + d, b.x, b.y, rfl, by omega, ⟨k, j, hi, .inr ⟨ht, hpay⟩⟩, .inr (Nat.le_of_not_lt fun hlt => ?_), two_of hR' rfl hs hg, hB'⟩
  obtain ⟨i, d', o, k1, k2, k3⟩ := hS.new (popN 3 + 1) nb' d _ (Nat.le_refl _) hs hg rfl hlt
  rw [hro i o k2] at k3
  cases k3
theorem gives_run32 (a : PyA) (hp : isGx (pyI 2 a).g (pyI 2 a).p) {σ : Sg} {w W : World} (hR : Rel Tryz.prog σ (mem (pyR 3 a) (popN 3)) w) {bl dl nb c : Nat} {x y : Int} (hl : σ (12 + 1) = some (bl, dl)) (hB : Below w.heap.size w W) (hnb : w.heap.size <= nb) (hc : 2 <= c) (hT : Two W nb x y) (hx : Sm x) (hy : Sm y) :
  Calls Tryz.prog 62 #[.pointer (some ⟨bl, 2 * 10, none⟩), .slice (some ⟨nb, 0, none⟩) 2 c] W fun e W' => ∃ nb' c' u v, e = .returned (.slice (some ⟨nb', 0, none⟩) 2 c') /\ 2 <= c' /\ pyGv a 2 x y u v /\ (nb' = nb ∨ W.heap.size <= nb') /\ Two W' nb' u v /\ Below W.heap.size W W' := by
 have hT0 := hT
 obtain ⟨cs, fz, zs, h1, h2, -⟩ := hT
 obtain ⟨hR2, -⟩ := hR.newAt (o := .row [tgI .i64 x, tgI .i64 y] 3 .gro) (d := c - 2) hB hnb h1 (or_two h2)
 obtain ⟨v, R', n', hK, -, hsem⟩ := s_pgv32 ⟨a, x, y⟩ (fun v R' n' => (v = sc (popN 3) 2 /\ ∃ k j, isG (pyI 2 a).g (pyI 2 a).p k j /\ 0 <= turnG k j) ∨ ∃ b : XyB, (∃ k j, isG (pyI 2 a).g (pyI 2 a).p k j /\ turnG k j < 0 /\ payR k j (x + y) b.x b.y) /\ v = sc (popN 3 + 1) 2 /\ R' = [(popN 3 + 1, .p (.row [tgI .i64 b.x, tgI .i64 b.y] 3 (.grown 2)))] /\ n' = popN 3 + 2)
  ⟨hp, hx, hy⟩ ⟨fun _ h => .inl ⟨rfl, h⟩, fun b h => .inr ⟨b, h, rfl, rfl, rfl⟩, trivial⟩
 have hro : ∀ j o, (mem (twR (popN 3) x y :: pyR 3 a) (popN 3 + 1)).heap.get j = some o -> mayW o = false := ro_mem (by kernel_rfl)
 refine Calls.mono (sem_callsG (fn := Tryz.f62) (by kernel_rfl) rfl hsem hR2 (.cons (.ptr ((ext_other _ (by show 12 + 1 ≠ popN 3; decide)).trans hl)) (.cons (sl_two hc (ext_self _ _)) .nil)) hro) ?_
 rintro e W' ⟨v', σ', rfl, hv', hR', hS, hB'⟩
 rcases hK with ⟨rfl, k, j, hi, ht⟩ | ⟨b, ⟨k, j, hi, ht, hpay⟩, rfl, rfl, rfl⟩
 ·obtain ⟨nb', d, hs, rfl⟩ := hv'.slice_inv
  have he := hS.ext (popN 3) (Nat.lt_succ_self _)
  rw [hs] at he
  have he : some (nb', d) = some (nb, c - 2) := he.trans (ext_self _ _)
  cases he
  exact ⟨nb, 2 + (c - 2), x, y, rfl, by omega, ⟨k, j, hi, .inl ⟨ht, rfl, rfl⟩⟩, .inl rfl, hT0.below hB' hT0.lt, hB'⟩
 ·obtain ⟨nb', d, hs, rfl⟩ := hv'.slice_inv
  have hg : (mem [(popN 3 + 1, PO.p (.row [tgI .i64 b.x, tgI .i64 b.y] 3 (.grown 2)))] (popN 3 + 2)).heap.get (popN 3 + 1) = some (.row [tgI .i64 b.x, tgI .i64 b.y] 3 (.grown 2)) := by kernel_rfl
  refine ⟨nb', 2 + d, b.x, b.y, rfl, by omega, ⟨k, j, hi, .inr ⟨ht, hpay⟩⟩, .inr (Nat.le_of_not_lt fun hlt => ?_), two_of hR' rfl hs hg, hB'⟩
  obtain ⟨i, d', o, k1, k2, k3⟩ := hS.new (popN 3 + 1) nb' d _ (Nat.le_refl _) hs hg rfl hlt
  rw [hro i o k2] at k3
  cases k3
theorem gives_run40 (a : PyA) (hp : isGx (pyI 0 a).g (pyI 0 a).p) {σ : Sg} {w W : World} (hR : Rel Tryz.prog σ (mem (pyR 4 a) (popN 4)) w) {bl dl nb c : Nat} {x y : Int} (hl : σ (12 + 1) = some (bl, dl)) (hB : Below w.heap.size w W) (hnb : w.heap.size <= nb) (hc : 2 <= c) (hT : Two W nb x y) (hx : Sm x) (hy : Sm y) :
  Calls Tryz.prog 62 #[.pointer (some ⟨bl, 0 * 10, none⟩), .slice (some ⟨nb, 0, none⟩) 2 c] W fun e W' => ∃ nb' c' u v, e = .returned (.slice (some ⟨nb', 0, none⟩) 2 c') /\ 2 <= c' /\ pyGv a 0 x y u v /\ (nb' = nb ∨ W.heap.size <= nb') /\ Two W' nb' u v /\ Below W.heap.size W W' := by
 have hT0 := hT
 obtain ⟨cs, fz, zs, h1, h2, -⟩ := hT
 obtain ⟨hR2, -⟩ := hR.newAt (o := .row [tgI .i64 x, tgI .i64 y] 3 .gro) (d := c - 2) hB hnb h1 (or_two h2)
 obtain ⟨v, R', n', hK, -, hsem⟩ := s_pgv40 ⟨a, x, y⟩ (fun v R' n' => (v = sc (popN 4) 2 /\ ∃ k j, isG (pyI 0 a).g (pyI 0 a).p k j /\ 0 <= turnG k j) ∨ ∃ b : XyB, (∃ k j, isG (pyI 0 a).g (pyI 0 a).p k j /\ turnG k j < 0 /\ payR k j (x + y) b.x b.y) /\ v = sc (popN 4 + 1) 2 /\ R' = [(popN 4 + 1, .p (.row [tgI .i64 b.x, tgI .i64 b.y] 3 (.grown 2)))] /\ n' = popN 4 + 2)
  ⟨hp, hx, hy⟩ ⟨fun _ h => .inl ⟨rfl, h⟩, fun b h => .inr ⟨b, h, rfl, rfl, rfl⟩, trivial⟩
 have hro : ∀ j o, (mem (twR (popN 4) x y :: pyR 4 a) (popN 4 + 1)).heap.get j = some o -> mayW o = false := ro_mem (by kernel_rfl)
 refine Calls.mono (sem_callsG (fn := Tryz.f62) (by kernel_rfl) rfl hsem hR2 (.cons (.ptr ((ext_other _ (by show 12 + 1 ≠ popN 4; decide)).trans hl)) (.cons (sl_two hc (ext_self _ _)) .nil)) hro) ?_
 rintro e W' ⟨v', σ', rfl, hv', hR', hS, hB'⟩
 rcases hK with ⟨rfl, k, j, hi, ht⟩ | ⟨b, ⟨k, j, hi, ht, hpay⟩, rfl, rfl, rfl⟩
 ·obtain ⟨nb', d, hs, rfl⟩ := hv'.slice_inv
  have he := hS.ext (popN 4) (Nat.lt_succ_self _)
  rw [hs] at he
  have he : some (nb', d) = some (nb, c - 2) := he.trans (ext_self _ _)
  cases he
  exact ⟨nb, 2 + (c - 2), x, y, rfl, by omega, ⟨k, j, hi, .inl ⟨ht, rfl, rfl⟩⟩, .inl rfl, hT0.below hB' hT0.lt, hB'⟩
 ·obtain ⟨nb', d, hs, rfl⟩ := hv'.slice_inv
  have hg : (mem [(popN 4 + 1, PO.p (.row [tgI .i64 b.x, tgI .i64 b.y] 3 (.grown 2)))] (popN 4 + 2)).heap.get (popN 4 + 1) = some (.row [tgI .i64 b.x, tgI .i64 b.y] 3 (.grown 2)) := by kernel_rfl
  refine ⟨nb', 2 + d, b.x, b.y, rfl, by omega, ⟨k, j, hi, .inr ⟨ht, hpay⟩⟩, .inr (Nat.le_of_not_lt fun hlt => ?_), two_of hR' rfl hs hg, hB'⟩
  obtain ⟨i, d', o, k1, k2, k3⟩ := hS.new (popN 4 + 1) nb' d _ (Nat.le_refl _) hs hg rfl hlt
  rw [hro i o k2] at k3
  cases k3
theorem gives_run41 (a : PyA) (hp : isGx (pyI 1 a).g (pyI 1 a).p) {σ : Sg} {w W : World} (hR : Rel Tryz.prog σ (mem (pyR 4 a) (popN 4)) w) {bl dl nb c : Nat} {x y : Int} (hl : σ (12 + 1) = some (bl, dl)) (hB : Below w.heap.size w W) (hnb : w.heap.size <= nb) (hc : 2 <= c) (hT : Two W nb x y) (hx : Sm x) (hy : Sm y) :
  Calls Tryz.prog 62 #[.pointer (some ⟨bl, 1 * 10, none⟩), .slice (some ⟨nb, 0, none⟩) 2 c] W fun e W' => ∃ nb' c' u v, e = .returned (.slice (some ⟨nb', 0, none⟩) 2 c') /\ 2 <= c' /\ pyGv a 1 x y u v /\ (nb' = nb ∨ W.heap.size <= nb') /\ Two W' nb' u v /\ Below W.heap.size W W' := by
 have hT0 := hT
 obtain ⟨cs, fz, zs, h1, h2, -⟩ := hT
 obtain ⟨hR2, -⟩ := hR.newAt (o := .row [tgI .i64 x, tgI .i64 y] 3 .gro) (d := c - 2) hB hnb h1 (or_two h2)
 obtain ⟨v, R', n', hK, -, hsem⟩ := s_pgv41 ⟨a, x, y⟩ (fun v R' n' => (v = sc (popN 4) 2 /\ ∃ k j, isG (pyI 1 a).g (pyI 1 a).p k j /\ 0 <= turnG k j) ∨ ∃ b : XyB, (∃ k j, isG (pyI 1 a).g (pyI 1 a).p k j /\ turnG k j < 0 /\ payR k j (x + y) b.x b.y) /\ v = sc (popN 4 + 1) 2 /\ R' = [(popN 4 + 1, .p (.row [tgI .i64 b.x, tgI .i64 b.y] 3 (.grown 2)))] /\ n' = popN 4 + 2)
  ⟨hp, hx, hy⟩ ⟨fun _ h => .inl ⟨rfl, h⟩, fun b h => .inr ⟨b, h, rfl, rfl, rfl⟩, trivial⟩
 have hro : ∀ j o, (mem (twR (popN 4) x y :: pyR 4 a) (popN 4 + 1)).heap.get j = some o -> mayW o = false := ro_mem (by kernel_rfl)
 refine Calls.mono (sem_callsG (fn := Tryz.f62) (by kernel_rfl) rfl hsem hR2 (.cons (.ptr ((ext_other _ (by show 12 + 1 ≠ popN 4; decide)).trans hl)) (.cons (sl_two hc (ext_self _ _)) .nil)) hro) ?_
 rintro e W' ⟨v', σ', rfl, hv', hR', hS, hB'⟩
 rcases hK with ⟨rfl, k, j, hi, ht⟩ | ⟨b, ⟨k, j, hi, ht, hpay⟩, rfl, rfl, rfl⟩
 ·obtain ⟨nb', d, hs, rfl⟩ := hv'.slice_inv
  have he := hS.ext (popN 4) (Nat.lt_succ_self _)
  rw [hs] at he
  have he : some (nb', d) = some (nb, c - 2) := he.trans (ext_self _ _)
  cases he
  exact ⟨nb, 2 + (c - 2), x, y, rfl, by omega, ⟨k, j, hi, .inl ⟨ht, rfl, rfl⟩⟩, .inl rfl, hT0.below hB' hT0.lt, hB'⟩
 ·obtain ⟨nb', d, hs, rfl⟩ := hv'.slice_inv
  have hg : (mem [(popN 4 + 1, PO.p (.row [tgI .i64 b.x, tgI .i64 b.y] 3 (.grown 2)))] (popN 4 + 2)).heap.get (popN 4 + 1) = some (.row [tgI .i64 b.x, tgI .i64 b.y] 3 (.grown 2)) := by kernel_rfl
  refine ⟨nb', 2 + d, b.x, b.y, rfl, by omega, ⟨k, j, hi, .inr ⟨ht, hpay⟩⟩, .inr (Nat.le_of_not_lt fun hlt => ?_), two_of hR' rfl hs hg, hB'⟩
  obtain ⟨i, d', o, k1, k2, k3⟩ := hS.new (popN 4 + 1) nb' d _ (Nat.le_refl _) hs hg rfl hlt
  rw [hro i o k2] at k3
  cases k3
theorem gives_run42 (a : PyA) (hp : isGx (pyI 2 a).g (pyI 2 a).p) {σ : Sg} {w W : World} (hR : Rel Tryz.prog σ (mem (pyR 4 a) (popN 4)) w) {bl dl nb c : Nat} {x y : Int} (hl : σ (12 + 1) = some (bl, dl)) (hB : Below w.heap.size w W) (hnb : w.heap.size <= nb) (hc : 2 <= c) (hT : Two W nb x y) (hx : Sm x) (hy : Sm y) :
  Calls Tryz.prog 62 #[.pointer (some ⟨bl, 2 * 10, none⟩), .slice (some ⟨nb, 0, none⟩) 2 c] W fun e W' => ∃ nb' c' u v, e = .returned (.slice (some ⟨nb', 0, none⟩) 2 c') /\ 2 <= c' /\ pyGv a 2 x y u v /\ (nb' = nb ∨ W.heap.size <= nb') /\ Two W' nb' u v /\ Below W.heap.size W W' := by
 have hT0 := hT
 obtain ⟨cs, fz, zs, h1, h2, -⟩ := hT
 obtain ⟨hR2, -⟩ := hR.newAt (o := .row [tgI .i64 x, tgI .i64 y] 3 .gro) (d := c - 2) hB hnb h1 (or_two h2)
 obtain ⟨v, R', n', hK, -, hsem⟩ := s_pgv42 ⟨a, x, y⟩ (fun v R' n' => (v = sc (popN 4) 2 /\ ∃ k j, isG (pyI 2 a).g (pyI 2 a).p k j /\ 0 <= turnG k j) ∨ ∃ b : XyB, (∃ k j, isG (pyI 2 a).g (pyI 2 a).p k j /\ turnG k j < 0 /\ payR k j (x + y) b.x b.y) /\ v = sc (popN 4 + 1) 2 /\ R' = [(popN 4 + 1, .p (.row [tgI .i64 b.x, tgI .i64 b.y] 3 (.grown 2)))] /\ n' = popN 4 + 2)
  ⟨hp, hx, hy⟩ ⟨fun _ h => .inl ⟨rfl, h⟩, fun b h => .inr ⟨b, h, rfl, rfl, rfl⟩, trivial⟩
 have hro : ∀ j o, (mem (twR (popN 4) x y :: pyR 4 a) (popN 4 + 1)).heap.get j = some o -> mayW o = false := ro_mem (by kernel_rfl)
 refine Calls.mono (sem_callsG (fn := Tryz.f62) (by kernel_rfl) rfl hsem hR2 (.cons (.ptr ((ext_other _ (by show 12 + 1 ≠ popN 4; decide)).trans hl)) (.cons (sl_two hc (ext_self _ _)) .nil)) hro) ?_
 rintro e W' ⟨v', σ', rfl, hv', hR', hS, hB'⟩
 rcases hK with ⟨rfl, k, j, hi, ht⟩ | ⟨b, ⟨k, j, hi, ht, hpay⟩, rfl, rfl, rfl⟩
 ·obtain ⟨nb', d, hs, rfl⟩ := hv'.slice_inv
  have he := hS.ext (popN 4) (Nat.lt_succ_self _)
  rw [hs] at he
  have he : some (nb', d) = some (nb, c - 2) := he.trans (ext_self _ _)
  cases he
  exact ⟨nb, 2 + (c - 2), x, y, rfl, by omega, ⟨k, j, hi, .inl ⟨ht, rfl, rfl⟩⟩, .inl rfl, hT0.below hB' hT0.lt, hB'⟩
 ·obtain ⟨nb', d, hs, rfl⟩ := hv'.slice_inv
  have hg : (mem [(popN 4 + 1, PO.p (.row [tgI .i64 b.x, tgI .i64 b.y] 3 (.grown 2)))] (popN 4 + 2)).heap.get (popN 4 + 1) = some (.row [tgI .i64 b.x, tgI .i64 b.y] 3 (.grown 2)) := by kernel_rfl
  refine ⟨nb', 2 + d, b.x, b.y, rfl, by omega, ⟨k, j, hi, .inr ⟨ht, hpay⟩⟩, .inr (Nat.le_of_not_lt fun hlt => ?_), two_of hR' rfl hs hg, hB'⟩
  obtain ⟨i, d', o, k1, k2, k3⟩ := hS.new (popN 4 + 1) nb' d _ (Nat.le_refl _) hs hg rfl hlt
  rw [hro i o k2] at k3
  cases k3
theorem gives_run43 (a : PyA) (hp : isGx (pyI 3 a).g (pyI 3 a).p) {σ : Sg} {w W : World} (hR : Rel Tryz.prog σ (mem (pyR 4 a) (popN 4)) w) {bl dl nb c : Nat} {x y : Int} (hl : σ (12 + 1) = some (bl, dl)) (hB : Below w.heap.size w W) (hnb : w.heap.size <= nb) (hc : 2 <= c) (hT : Two W nb x y) (hx : Sm x) (hy : Sm y) :
  Calls Tryz.prog 62 #[.pointer (some ⟨bl, 3 * 10, none⟩), .slice (some ⟨nb, 0, none⟩) 2 c] W fun e W' => ∃ nb' c' u v, e = .returned (.slice (some ⟨nb', 0, none⟩) 2 c') /\ 2 <= c' /\ pyGv a 3 x y u v /\ (nb' = nb ∨ W.heap.size <= nb') /\ Two W' nb' u v /\ Below W.heap.size W W' := by
 have hT0 := hT
 obtain ⟨cs, fz, zs, h1, h2, -⟩ := hT
 obtain ⟨hR2, -⟩ := hR.newAt (o := .row [tgI .i64 x, tgI .i64 y] 3 .gro) (d := c - 2) hB hnb h1 (or_two h2)
 obtain ⟨v, R', n', hK, -, hsem⟩ := s_pgv43 ⟨a, x, y⟩ (fun v R' n' => (v = sc (popN 4) 2 /\ ∃ k j, isG (pyI 3 a).g (pyI 3 a).p k j /\ 0 <= turnG k j) ∨ ∃ b : XyB, (∃ k j, isG (pyI 3 a).g (pyI 3 a).p k j /\ turnG k j < 0 /\ payR k j (x + y) b.x b.y) /\ v = sc (popN 4 + 1) 2 /\ R' = [(popN 4 + 1, .p (.row [tgI .i64 b.x, tgI .i64 b.y] 3 (.grown 2)))] /\ n' = popN 4 + 2)
  ⟨hp, hx, hy⟩ ⟨fun _ h => .inl ⟨rfl, h⟩, fun b h => .inr ⟨b, h, rfl, rfl, rfl⟩, trivial⟩
 have hro : ∀ j o, (mem (twR (popN 4) x y :: pyR 4 a) (popN 4 + 1)).heap.get j = some o -> mayW o = false := ro_mem (by kernel_rfl)
 refine Calls.mono (sem_callsG (fn := Tryz.f62) (by kernel_rfl) rfl hsem hR2 (.cons (.ptr ((ext_other _ (by show 12 + 1 ≠ popN 4; decide)).trans hl)) (.cons (sl_two hc (ext_self _ _)) .nil)) hro) ?_
 rintro e W' ⟨v', σ', rfl, hv', hR', hS, hB'⟩
 rcases hK with ⟨rfl, k, j, hi, ht⟩ | ⟨b, ⟨k, j, hi, ht, hpay⟩, rfl, rfl, rfl⟩
 ·obtain ⟨nb', d, hs, rfl⟩ := hv'.slice_inv
  have he := hS.ext (popN 4) (Nat.lt_succ_self _)
  rw [hs] at he
  have he : some (nb', d) = some (nb, c - 2) := he.trans (ext_self _ _)
  cases he
  exact ⟨nb, 2 + (c - 2), x, y, rfl, by omega, ⟨k, j, hi, .inl ⟨ht, rfl, rfl⟩⟩, .inl rfl, hT0.below hB' hT0.lt, hB'⟩
 ·obtain ⟨nb', d, hs, rfl⟩ := hv'.slice_inv
  have hg : (mem [(popN 4 + 1, PO.p (.row [tgI .i64 b.x, tgI .i64 b.y] 3 (.grown 2)))] (popN 4 + 2)).heap.get (popN 4 + 1) = some (.row [tgI .i64 b.x, tgI .i64 b.y] 3 (.grown 2)) := by kernel_rfl
  refine ⟨nb', 2 + d, b.x, b.y, rfl, by omega, ⟨k, j, hi, .inr ⟨ht, hpay⟩⟩, .inr (Nat.le_of_not_lt fun hlt => ?_), two_of hR' rfl hs hg, hB'⟩
  obtain ⟨i, d', o, k1, k2, k3⟩ := hS.new (popN 4 + 1) nb' d _ (Nat.le_refl _) hs hg rfl hlt
  rw [hro i o k2] at k3
  cases k3
noncomputable section
structure PyX where
 a : PyA
 b : XyB
def G_py0 (q : PyX) : Prop := seenW Tryz.prog (popN 1) [(popN 1, popN 1)] (sc (popN 1) 2) (mem (twR (popN 1) q.b.x q.b.y :: pyR 1 q.a) (popN 1 + 1)) (sc (popN 1) 2) [(popN 1, .p (.row [tgI .i64 q.b.x, tgI .i64 q.b.y] 3 .gro))] (popN 1 + 1)
def G_py1 (q : PyX) : Prop := seenW Tryz.prog (popN 2) [(popN 2, popN 2)] (sc (popN 2) 2) (mem (twR (popN 2) q.b.x q.b.y :: pyR 2 q.a) (popN 2 + 1)) (sc (popN 2) 2) [(popN 2, .p (.row [tgI .i64 q.b.x, tgI .i64 q.b.y] 3 .gro))] (popN 2 + 1)
def G_py2 (q : PyX) : Prop := seenW Tryz.prog (popN 3) [(popN 3, popN 3)] (sc (popN 3) 2) (mem (twR (popN 3) q.b.x q.b.y :: pyR 3 q.a) (popN 3 + 1)) (sc (popN 3) 2) [(popN 3, .p (.row [tgI .i64 q.b.x, tgI .i64 q.b.y] 3 .gro))] (popN 3 + 1)
def G_py3 (q : PyX) : Prop := seenW Tryz.prog (popN 4) [(popN 4, popN 4)] (sc (popN 4) 2) (mem (twR (popN 4) q.b.x q.b.y :: pyR 4 q.a) (popN 4 + 1)) (sc (popN 4) 2) [(popN 4, .p (.row [tgI .i64 q.b.x, tgI .i64 q.b.y] 3 .gro))] (popN 4 + 1)
end
end Go.Proofs.YtfkacmmcgncooaaGreatDoor
end
