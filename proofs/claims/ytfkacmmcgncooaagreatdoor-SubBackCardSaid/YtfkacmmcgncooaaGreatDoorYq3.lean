/- Tables within tables: what is paid as they stand is as is told. -/
import Derived.Test.YtfkacmmcgncooaaGreatDoorPd
section
set_option maxRecDepth 100000
namespace Go.Proofs.YtfkacmmcgncooaaGreatDoor
open Go.Ev
open Go.RowKit (Below)
set_option linter.unusedSectionVars false
variable [Frozen Tryz.prog]
def twR (i : Nat) (x y : Int) : Nat × PO := (i, .p (.row [tgI .i64 x, tgI .i64 y] 3 .gro))
theorem or_two {σ : Sg} {x y : Int} {c : Nat} {cs : Array Value} {fz : Nat × Nat} {zs : List Value} (h2 : cs.toList = .int .i64 x :: .int .i64 y :: zs) : OR Tryz.prog σ c (.row [tgI .i64 x, tgI .i64 y] 3 .gro) (.cells cs 3 fz) :=
 ⟨.inl rfl, ⟨[.int .i64 x, .int .i64 y], zs, h2, .cons (tgI_vr _ _) (.cons (tgI_vr _ _) .nil), fun h => (by cases h)⟩, fun h => (by cases h), fun _ h => (by cases h), fun h => (by cases h)⟩
theorem sl_two {σ : Sg} {i nb c : Nat} (hc : 2 <= c) (hs : σ i = some (nb, c - 2)) : VR σ (sc i 2) (.slice (some ⟨nb, 0, none⟩) 2 c) := by
 have := VR.slice (σ := σ) (o := 0) (l := 2) (c := 2) hs
 rw [show 2 + (c - 2) = c by omega] at this
 exact this
theorem giv_ok {g : RuA} {p : PoA} {x y u v : Int} (h : givR g p x y u v) (hx : 0 <= x) (hy : 0 <= y) : (0 <= u /\ 0 <= v) /\ u + v = x + y := by
 obtain ⟨k, j, hi, ⟨-, rfl, rfl⟩ | ⟨-, h⟩⟩ := h
 ·exact ⟨⟨hx, hy⟩, rfl⟩
 ·have := payR_ok h (by omega)
  omega
theorem pay_uniq : (payT.all fun e => payT.all fun q => !(Nat.beq e.1 q.1 && Nat.beq e.2.1 q.2.1) || (decide (e.2.2.1 = q.2.2.1) && decide (e.2.2.2.2 = q.2.2.2.2))) = true := by kernel_rfl
theorem payR_fun {k j : Nat} {w x y u v : Int} (h : payR k j w x y) (h' : payR k j w u v) : x = u /\ y = v := by
 have uq : ∀ {a b c d e f : Int}, (k, j, a, b, c) ∈ payT -> (k, j, d, e, f) ∈ payT -> a = d /\ c = f := fun h1 h2 => by
  have := List.all_eq_true.1 (List.all_eq_true.1 pay_uniq _ h1) _ h2
  simp only [Nat.beq_refl, Bool.and_self, Bool.not_true, Bool.false_or, Bool.and_eq_true, decide_eq_true_eq] at this
  exact this
 rcases h with ⟨h1, rfl, rfl⟩ | ⟨a, h1, h2, h3⟩ <;> rcases h' with ⟨q1, rfl, rfl⟩ | ⟨b, q1, q2, q3⟩
 ·exact ⟨rfl, rfl⟩
 ·exact absurd (uq h1 q1).2 (by decide)
 ·exact absurd (uq h1 q1).2 (by decide)
 ·obtain ⟨rfl, -⟩ := uq h1 q1
  have : x = u := h2.trans q2.symm
  subst this
  exact ⟨rfl, h3.trans q3.symm⟩
theorem giv_fun {g : RuA} {p : PoA} {x y u v u' v' : Int} (h : givR g p x y u v) (h' : givR g p x y u' v') : u = u' /\ v = v' := by
 obtain ⟨k, j, hi, h⟩ := h
 obtain ⟨k', j', hi', h'⟩ := h'
 obtain ⟨rfl, rfl⟩ := isG_inj hi hi'
 rcases h with ⟨h1, rfl, rfl⟩ | ⟨h1, h⟩ <;> rcases h' with ⟨h2, rfl, rfl⟩ | ⟨h2, h'⟩
 ·exact ⟨rfl, rfl⟩
 ·omega
 ·omega
 ·exact payR_fun h h'
theorem giv_ex {g : RuA} {p : PoA} (h : isGx g p) (x y : Int) : ∃ u v, givR g p x y u v := by
 obtain ⟨k, j, hi⟩ := h
 by_cases ht : turnG k j < 0
 ·rcases pay_of hi.1 ht with ⟨a, ha⟩ | ha
  ·exact ⟨_, _, k, j, hi, .inr ⟨ht, .inr ⟨a, ha, rfl, rfl⟩⟩⟩
  ·exact ⟨_, _, k, j, hi, .inr ⟨ht, .inl ⟨ha, rfl, rfl⟩⟩⟩
 ·exact ⟨x, y, k, j, hi, .inl ⟨by omega, rfl, rfl⟩⟩
theorem chL_fun {M : Nat} {a : PyA} : ∀ {pre : List (Fin (M + 1))} {x y u v : Int}, ChL (pyFa a) (pyFb a) (pyGv a) pre x y -> ChL (pyFa a) (pyFb a) (pyGv a) pre u v -> x = u /\ y = v := by
 intro pre x y u v h
 induction h generalizing u v with
 | nil =>
  intro h'
  generalize hp : ([] : List (Fin (M + 1))) = q at h'
  cases h' with
  | nil => exact ⟨rfl, rfl⟩
  | snoc => exact absurd hp.symm (by simp)
 | @snoc pre t x y u1 v1 h1 h2 ih =>
  intro h'
  generalize hp : pre ++ [t] = q at h'
  cases h' with
  | nil => exact absurd hp (by simp)
  | @snoc pre' t' x' y' _ _ k1 k2 =>
   obtain ⟨e1, e2⟩ := List.append_inj' hp rfl
   cases e2
   subst e1
   obtain ⟨rfl, rfl⟩ := ih k1
   exact giv_fun h2 k2
theorem chL_ex {M : Nat} {a : PyA} (h : pyOK (M + 1) a) : ∀ k, k <= M + 1 -> ∃ x y, ChL (M := M) (pyFa a) (pyFb a) (pyGv a) (dn M k) x y := by
 intro k
 induction k with
 | zero => intro _; exact ⟨0, 0, .nil⟩
 | succ k ih =>
  intro hk
  obtain ⟨x, y, hc⟩ := ih (by omega)
  obtain ⟨u, v, hg⟩ := giv_ex (h (M - k) (by omega)).1 (pyFa a (M - k) + x) (pyFb a (M - k) + y)
  rw [dn_succ]
  exact ⟨u, v, .snoc hc hg⟩
theorem gives_run10 (a : PyA) (hp : isGx (pyI 0 a).g (pyI 0 a).p) {σ : Sg} {w W : World} (hR : Rel Tryz.prog σ (mem (pyR 1 a) (popN 1)) w) {bl dl nb c : Nat} {x y : Int} (hl : σ (12 + 1) = some (bl, dl)) (hB : Below w.heap.size w W) (hnb : w.heap.size <= nb) (hc : 2 <= c) (hT : Two W nb x y) (hx : Sm x) (hy : Sm y) :
  Calls Tryz.prog 62 #[.pointer (some ⟨bl, 0 * 10, none⟩), .slice (some ⟨nb, 0, none⟩) 2 c] W fun e W' => ∃ nb' c' u v, e = .returned (.slice (some ⟨nb', 0, none⟩) 2 c') /\ 2 <= c' /\ pyGv a 0 x y u v /\ (nb' = nb ∨ W.heap.size <= nb') /\ Two W' nb' u v /\ Below W.heap.size W W' := by
 have hT0 := hT
 obtain ⟨cs, fz, zs, h1, h2, -⟩ := hT
 obtain ⟨hR2, -⟩ := hR.newAt (o := .row [tgI .i64 x, tgI .i64 y] 3 .gro) (d := c - 2) hB hnb h1 (or_two h2)
 obtain ⟨v, R', n', hK, -, hsem⟩ := s_pgv10 ⟨a, x, y⟩ (fun v R' n' => (v = sc (popN 1) 2 /\ ∃ k j, isG (pyI 0 a).g (pyI 0 a).p k j /\ 0 <= turnG k j) ∨ ∃ b : XyB, (∃ k j, isG (pyI 0 a).g (pyI 0 a).p k j /\ turnG k j < 0 /\ payR k j (x + y) b.x b.y) /\ v = sc (popN 1 + 1) 2 /\ R' = [(popN 1 + 1, .p (.row [tgI .i64 b.x, tgI .i64 b.y] 3 (.grown 2)))] /\ n' = popN 1 + 2)
  ⟨hp, hx, hy⟩ ⟨fun _ h => .inl ⟨rfl, h⟩, fun b h => .inr ⟨b, h, rfl, rfl, rfl⟩, trivial⟩
 have hro : ∀ j o, (mem (twR (popN 1) x y :: pyR 1 a) (popN 1 + 1)).heap.get j = some o -> mayW o = false := ro_mem (by kernel_rfl)
 refine Calls.mono (sem_callsG (fn := Tryz.f62) (by kernel_rfl) rfl hsem hR2 (.cons (.ptr ((ext_other _ (by show 12 + 1 ≠ popN 1; decide)).trans hl)) (.cons (sl_two hc (ext_self _ _)) .nil)) hro) ?_
 rintro e W' ⟨v', σ', rfl, hv', hR', hS, hB'⟩
 rcases hK with ⟨rfl, k, j, hi, ht⟩ | ⟨b, ⟨k, j, hi, ht, hpay⟩, rfl, rfl, rfl⟩
 ·obtain ⟨nb', d, hs, rfl⟩ := hv'.slice_inv
  have he := hS.ext (popN 1) (Nat.lt_succ_self _)
  rw [hs] at he
  have he : some (nb', d) = some (nb, c - 2) := he.trans (ext_self _ _)
  cases he
  exact ⟨nb, 2 + (c - 2), x, y, rfl, by omega, ⟨k, j, hi, .inl ⟨ht, rfl, rfl⟩⟩, .inl rfl, hT0.below hB' hT0.lt, hB'⟩
 ·obtain ⟨nb', d, hs, rfl⟩ := hv'.slice_inv
  have hg : (mem [(popN 1 + 1, PO.p (.row [tgI .i64 b.x, tgI .i64 b.y] 3 (.grown 2)))] (popN 1 + 2)).heap.get (popN 1 + 1) = some (.row [tgI .i64 b.x, tgI .i64 b.y] 3 (.grown 2)) := by kernel_rfl
  refine ⟨nb', 2 + d, b.x, b.y, rfl, by omega, ⟨k, j, hi, .inr ⟨ht, hpay⟩⟩, .inr (Nat.le_of_not_lt fun hlt => ?_), two_of hR' rfl hs hg, hB'⟩
  obtain ⟨i, d', o, k1, k2, k3⟩ := hS.new (popN 1 + 1) nb' d _ (Nat.le_refl _) hs hg rfl hlt
  rw [hro i o k2] at k3
  cases k3
theorem gives_run20 (a : PyA) (hp : isGx (pyI 0 a).g (pyI 0 a).p) {σ : Sg} {w W : World} (hR : Rel Tryz.prog σ (mem (pyR 2 a) (popN 2)) w) {bl dl nb c : Nat} {x y : Int} (hl : σ (12 + 1) = some (bl, dl)) (hB : Below w.heap.size w W) (hnb : w.heap.size <= nb) (hc : 2 <= c) (hT : Two W nb x y) (hx : Sm x) (hy : Sm y) :
  Calls Tryz.prog 62 #[.pointer (some ⟨bl, 0 * 10, none⟩), .slice (some ⟨nb, 0, none⟩) 2 c] W fun e W' => ∃ nb' c' u v, e = .returned (.slice (some ⟨nb', 0, none⟩) 2 c') /\ 2 <= c' /\ pyGv a 0 x y u v /\ (nb' = nb ∨ W.heap.size <= nb') /\ Two W' nb' u v /\ Below W.heap.size W W' := by
 have hT0 := hT
 obtain ⟨cs, fz, zs, h1, h2, -⟩ := hT
 obtain ⟨hR2, -⟩ := hR.newAt (o := .row [tgI .i64 x, tgI .i64 y] 3 .gro) (d := c - 2) hB hnb h1 (or_two h2)
 obtain ⟨v, R', n', hK, -, hsem⟩ := s_pgv20 ⟨a, x, y⟩ (fun v R' n' => (v = sc (popN 2) 2 /\ ∃ k j, isG (pyI 0 a).g (pyI 0 a).p k j /\ 0 <= turnG k j) ∨ ∃ b : XyB, (∃ k j, isG (pyI 0 a).g (pyI 0 a).p k j /\ turnG k j < 0 /\ payR k j (x + y) b.x b.y) /\ v = sc (popN 2 + 1) 2 /\ R' = [(popN 2 + 1, .p (.row [tgI .i64 b.x, tgI .i64 b.y] 3 (.grown 2)))] /\ n' = popN 2 + 2)
  ⟨hp, hx, hy⟩ ⟨fun _ h => .inl ⟨rfl, h⟩, fun b h => .inr ⟨b, h, rfl, rfl, rfl⟩, trivial⟩
 have hro : ∀ j o, (mem (twR (popN 2) x y :: pyR 2 a) (popN 2 + 1)).heap.get j = some o -> mayW o = false := ro_mem (by kernel_rfl)
 refine Calls.mono (sem_callsG (fn := Tryz.f62) (by kernel_rfl) rfl hsem hR2 (.cons (.ptr ((ext_other _ (by show 12 + 1 ≠ popN 2; decide)).trans hl)) (.cons (sl_two hc (ext_self _ _)) .nil)) hro) ?_
 rintro e W' ⟨v', σ', rfl, hv', hR', hS, hB'⟩
 rcases hK with ⟨rfl, k, j, hi, ht⟩ | ⟨b, ⟨k, j, hi, ht, hpay⟩, rfl, rfl, rfl⟩
 ·obtain ⟨nb', d, hs, rfl⟩ := hv'.slice_inv
  have he := hS.ext (popN 2) (Nat.lt_succ_self _)
  rw [hs] at he
  have he : some (nb', d) = some (nb, c - 2) := he.trans (ext_self _ _)
  cases he
  exact ⟨nb, 2 + (c - 2), x, y, rfl, by omega, ⟨k, j, hi, .inl ⟨ht, rfl, rfl⟩⟩, .inl rfl, hT0.below hB' hT0.lt, hB'⟩
 ·obtain ⟨nb', d, hs, rfl⟩ := hv'.slice_inv
  have hg : (mem [(popN 2 + 1, PO.p (.row [tgI .i64 b.x, tgI .i64 b.y] 3 (.grown 2)))] (popN 2 + 2)).heap.get (popN 2 + 1) = some (.row [tgI .i64 b.x, tgI .i64 b.y] 3 (.grown 2)) := by kernel_rfl
  refine ⟨nb', 2 + d, b.x, b.y, rfl, by omega, ⟨k, j, hi, .inr ⟨ht, hpay⟩⟩, .inr (Nat.le_of_not_lt fun hlt => ?_), two_of hR' rfl hs hg, hB'⟩
  obtain ⟨i, d', o, k1, k2, k3⟩ := hS.new (popN 2 + 1) nb' d _ (Nat.le_refl _) hs hg rfl hlt
  rw [hro i o k2] at k3
  cases k3
theorem gives_run21 (a : PyA) (hp : isGx (pyI 1 a).g (pyI 1 a).p) {σ : Sg} {w W : World} (hR : Rel Tryz.prog σ (mem (pyR 2 a) (popN 2)) w) {bl dl nb c : Nat} {x y : Int} (hl : σ (12 + 1) = some (bl, dl)) (hB : Below w.heap.size w W) (hnb : w.heap.size <= nb) (hc : 2 <= c) (hT : Two W nb x y) (hx : Sm x) (hy : Sm y) :
  Calls Tryz.prog 62 #[.pointer (some ⟨bl, 1 * 10, none⟩), .slice (some ⟨nb, 0, none⟩) 2 c] W fun e W' => ∃ nb' c' u v, e = .returned (.slice (some ⟨nb', 0, none⟩) 2 c') /\ 2 <= c' /\ pyGv a 1 x y u v /\ (nb' = nb ∨ W.heap.size <= nb') /\ Two W' nb' u v /\ Below W.heap.size W W' := by
 have hT0 := hT
 obtain ⟨cs, fz, zs, h1, h2, -⟩ := hT
 obtain ⟨hR2, -⟩ := hR.newAt (o := .row [tgI .i64 x, tgI .i64 y] 3 .gro) (d := c - 2) hB hnb h1 (or_two h2)
 obtain ⟨v, R', n', hK, -, hsem⟩ := s_pgv21 ⟨a, x, y⟩ (fun v R' n' => (v = sc (popN 2) 2 /\ ∃ k j, isG (pyI 1 a).g (pyI 1 a).p k j /\ 0 <= turnG k j) ∨ ∃ b : XyB, (∃ k j, isG (pyI 1 a).g (pyI 1 a).p k j /\ turnG k j < 0 /\ payR k j (x + y) b.x b.y) /\ v = sc (popN 2 + 1) 2 /\ R' = [(popN 2 + 1, .p (.row [tgI .i64 b.x, tgI .i64 b.y] 3 (.grown 2)))] /\ n' = popN 2 + 2)
  ⟨hp, hx, hy⟩ ⟨fun _ h => .inl ⟨rfl, h⟩, fun b h => .inr ⟨b, h, rfl, rfl, rfl⟩, trivial⟩
 have hro : ∀ j o, (mem (twR (popN 2) x y :: pyR 2 a) (popN 2 + 1)).heap.get j = some o -> mayW o = false := ro_mem (by kernel_rfl)
 refine Calls.mono (sem_callsG (fn := Tryz.f62) (by kernel_rfl) rfl hsem hR2 (.cons (.ptr ((ext_other _ (by show 12 + 1 ≠ popN 2; decide)).trans hl)) (.cons (sl_two hc (ext_self _ _)) .nil)) hro) ?_
 rintro e W' ⟨v', σ', rfl, hv', hR', hS, hB'⟩
 rcases hK with ⟨rfl, k, j, hi, ht⟩ | ⟨b, ⟨k, j, hi, ht, hpay⟩, rfl, rfl, rfl⟩
 ·obtain ⟨nb', d, hs, rfl⟩ := hv'.slice_inv
  have he := hS.ext (popN 2) (Nat.lt_succ_self _)
  rw [hs] at he
  have he : some (nb', d) = some (nb, c - 2) := he.trans (ext_self _ _)
  cases he
  exact ⟨nb, 2 + (c - 2), x, y, rfl, by omega, ⟨k, j, hi, .inl ⟨ht, rfl, rfl⟩⟩, .inl rfl, hT0.below hB' hT0.lt, hB'⟩
 ·obtain ⟨nb', d, hs, rfl⟩ := hv'.slice_inv
  have hg : (mem [(popN 2 + 1, PO.p (.row [tgI .i64 b.x, tgI .i64 b.y] 3 (.grown 2)))] (popN 2 + 2)).heap.get (popN 2 + 1) = some (.row [tgI .i64 b.x, tgI .i64 b.y] 3 (.grown 2)) := by kernel_rfl
  refine ⟨nb', 2 + d, b.x, b.y, rfl, by omega, ⟨k, j, hi, .inr ⟨ht, hpay⟩⟩, .inr (Nat.le_of_not_lt fun hlt => ?_), two_of hR' rfl hs hg, hB'⟩
  obtain ⟨i, d', o, k1, k2, k3⟩ := hS.new (popN 2 + 1) nb' d _ (Nat.le_refl _) hs hg rfl hlt
  rw [hro i o k2] at k3
  cases k3
theorem gives_run30 (a : PyA) (hp : isGx (pyI 0 a).g (pyI 0 a).p) {σ : Sg} {w W : World} (hR : Rel Tryz.prog σ (mem (pyR 3 a) (popN 3)) w) {bl dl nb c : Nat} {x y : Int} (hl : σ (12 + 1) = some (bl, dl)) (hB : Below w.heap.size w W) (hnb : w.heap.size <= nb) (hc : 2 <= c) (hT : Two W nb x y) (hx : Sm x) (hy : Sm y) :
  Calls Tryz.prog 62 #[.pointer (some ⟨bl, 0 * 10, none⟩), .slice (some ⟨nb, 0, none⟩) 2 c] W fun e W' => ∃ nb' c' u v, e = .returned (.slice (some ⟨nb', 0, none⟩) 2 c') /\ 2 <= c' /\ pyGv a 0 x y u v /\ (nb' = nb ∨ W.heap.size <= nb') /\ Two W' nb' u v /\ Below W.heap.size W W' := by
 have hT0 := hT
 obtain ⟨cs, fz, zs, h1, h2, -⟩ := hT
 obtain ⟨hR2, -⟩ := hR.newAt (o := .row [tgI .i64 x, tgI .i64 y] 3 .gro) (d := c - 2) hB hnb h1 (or_two h2)
 obtain ⟨v, R', n', hK, -, hsem⟩ := s_pgv30 ⟨a, x, y⟩ (fun v R' n' => (v = sc (popN 3) 2 /\ ∃ k j, isG (pyI 0 a).g (pyI 0 a).p k j /\ 0 <= turnG k j) ∨ ∃ b : XyB, (∃ k j, isG (pyI 0 a).g (pyI 0 a).p k j /\ turnG k j < 0 /\ payR k j (x + y) b.x b.y) /\ v = sc (popN 3 + 1) 2 /\ R' = [(popN 3 + 1, .p (.row [tgI .i64 b.x, tgI .i64 b.y] 3 (.grown 2)))] /\ n' = popN 3 + 2)
  ⟨hp, hx, hy⟩ ⟨fun _ h => .inl ⟨rfl, h⟩, fun b h => .inr ⟨b, h, rfl, rfl, rfl⟩, trivial⟩
 have hro : ∀ j o, (mem (twR (popN 3) x y :: pyR 3 a) (popN 3 + 1)).heap.get j = some o -> mayW o = false := ro_mem (by kernel_rfl)
 refine Calls.mono (sem_callsG (fn := Tryz.f62) (by kernel_rfl) rfl hsem hR2 (.cons (.ptr ((ext_other _ (by show 12 + 1 ≠ popN 3; decide)).trans hl)) (.cons (sl_two hc (ext_self _ _)) .nil)) hro) ?_
 rintro e W' ⟨v', σ', rfl, hv', hR', hS, hB'⟩
 rcases hK with ⟨rfl, k, j, hi, ht⟩ | ⟨b, ⟨k, j, hi, ht, hpay⟩, rfl, rfl, rfl⟩
 ·obtain ⟨nb', d, hs, rfl⟩ := hv'.slice_inv
  have he := hS.ext (popN 3) (Nat.lt_succ_self _)
  rw [hs] at he
  have he : some (nb', d) = some (nb, c - 2) := he.trans (ext_self _ _)
  cases he
  exact ⟨nb, 2 + (c - 2), x, y, rfl, by omega, ⟨k, j, hi, .inl ⟨ht, rfl, rfl⟩⟩, .inl rfl, hT0.below hB' hT0.lt, hB'⟩
 ·obtain ⟨nb', d, hs, rfl⟩ := hv'.slice_inv
  have hg : (mem [(popN 3 + 1, PO.p (.row [tgI .i64 b.x, tgI .i64 b.y] 3 (.grown 2)))] (popN 3 + 2)).heap.get (popN 3 + 1) = some (.row [tgI .i64 b.x, tgI .i64 b.y] 3 (.grown 2)) := by kernel_rfl
  refine ⟨nb', 2 + d, b.x, b.y, rfl, by omega, ⟨k, j, hi, .inr ⟨ht, hpay⟩⟩, .inr (Nat.le_of_not_lt fun hlt => ?_), two_of hR' rfl hs hg, hB'⟩
  obtain ⟨i, d', o, k1, k2, k3⟩ := hS.new (popN 3 + 1) nb' d _ (Nat.le_refl _) hs hg rfl hlt
  rw [hro i o k2] at k3
  cases k3
theorem gives_run31 (a : PyA) (hp : isGx (pyI 1 a).g (pyI 1 a).p) {σ : Sg} {w W : World} (hR : Rel Tryz.prog σ (mem (pyR 3 a) (popN 3)) w) {bl dl nb c : Nat} {x y : Int} (hl : σ (12 + 1) = some (bl, dl)) (hB : Below w.heap.size w W) (hnb : w.heap.size <= nb) (hc : 2 <= c) (hT : Two W nb x y) (hx : Sm x) (hy : Sm y) :
  Calls Tryz.prog 62 #[.pointer (some ⟨bl, 1 * 10, none⟩), .slice (some ⟨nb, 0, none⟩) 2 c] W fun e W' => ∃ nb' c' u v, e = .returned (.slice (some ⟨nb', 0, none⟩) 2 c') /\ 2 <= c' /\ pyGv a 1 x y u v /\ (nb' = nb ∨ W.heap.size <= nb') /\ Two W' nb' u v /\ Below W.heap.size W W' := by
 have hT0 := hT
 obtain ⟨cs, fz, zs, h1, h2, -⟩ := hT
 obtain ⟨hR2, -⟩ := hR.newAt (o := .row [tgI .i64 x, tgI .i64 y] 3 .gro) (d := c - 2) hB hnb h1 (or_two h2)
 obtain ⟨v, R', n', hK, -, hsem⟩ := s_pgv31 ⟨a, x, y⟩ (fun v R' n' => (v = sc (popN 3) 2 /\ ∃ k j, isG (pyI 1 a).g (pyI 1 a).p k j /\ 0 <= turnG k j) ∨ ∃ b : XyB, (∃ k j, isG (pyI 1 a).g (pyI 1 a).p k j /\ turnG k j < 0 /\ payR k j (x + y) b.x b.y) /\ v = sc (popN 3 + 1) 2 /\ R' = [(popN 3 + 1, .p (.row [tgI .i64 b.x, tgI .i64 b.y] 3 (.grown 2)))] /\ n' = popN 3 + 2)
  ⟨hp, hx, hy⟩ ⟨fun _ h => .inl ⟨rfl, h⟩, fun b h => .inr ⟨b, h, rfl, rfl, rfl⟩, trivial⟩
 have hro : ∀ j o, (mem (twR (popN 3) x y :: pyR 3 a) (popN 3 + 1)).heap.get j = some o -> mayW o = false := ro_mem (by kernel_rfl)
 refine Calls.mono (sem_callsG (fn := Tryz.f62) (by kernel_rfl) rfl hsem hR2 (.cons (.ptr ((ext_other _ (by show 12 + 1 ≠ popN 3; decide)).trans hl)) (.cons (sl_two hc (ext_self _ _)) .nil)) hro) ?_
 rintro e W' ⟨v', σ', rfl, hv', hR', hS, hB'⟩
 rcases hK with ⟨rfl, k, j, hi, ht⟩ | ⟨b, ⟨k, j, hi, ht, hpay⟩, rfl, rfl, rfl⟩
 ·obtain ⟨nb', d, hs, rfl⟩ := hv'.slice_inv
  have he := hS.ext (popN 3) (Nat.lt_succ_self _)
  rw [hs] at he
  have he : some (nb', d) = some (nb, c - 2) := he.trans (ext_self _ _)
  cases he
  exact ⟨nb, 2 + (c - 2), x, y, rfl, by omega, ⟨k, j, hi, .inl ⟨ht, rfl, rfl⟩⟩, .inl rfl, hT0.below hB' hT0.lt, hB'⟩
 ·obtain ⟨nb', d, hs, rfl⟩ := hv'.slice_inv
  have hg : (mem [(popN 3 + 1, PO.p (.row [tgI .i64 b.x, tgI .i64 b.y] 3 (.grown 2)))] (popN 3 + 2)).heap.get (popN 3 + 1) = some (.row [tgI .i64 b.x, tgI .i64 b.y] 3 (.grown 2)) := by kernel_rfl
  refine ⟨nb', 2 + d, b.x, b.y, rfl, by omega, ⟨k, j, hi, .inr ⟨ht, hpay⟩⟩, .inr (Nat.le_of_not_lt fun hlt => ?_), two_of hR' rfl hs hg, hB'⟩
  obtain ⟨i, d', o, k1, k2, k3⟩ := hS.new (popN 3 + 1) nb' d _ (Nat.le_refl _) hs hg rfl hlt
  rw [hro i o k2] at k3
  cases k3
theorem gives_run32 (a : PyA) (hp : isGx (pyI 2 a).g (pyI 2 a).p) {σ : Sg} {w W : World} (hR : Rel Tryz.prog σ (mem (pyR 3 a) (popN 3)) w) {bl dl nb c : Nat} {x y : Int} (hl : σ (12 + 1) = some (bl, dl)) (hB : Below w.heap.size w W) (hnb : w.heap.size <= nb) (hc : 2 <= c) (hT : Two W nb x y) (hx : Sm x) (hy : Sm y) :
  Calls Tryz.prog 62 #[.pointer (some ⟨bl, 2 * 10, none⟩), .slice (some ⟨nb, 0, none⟩) 2 c] W fun e W' => ∃ nb' c' u v, e = .returned (.slice (some ⟨nb', 0, none⟩) 2 c') /\ 2 <= c' /\ pyGv a 2 x y u v /\ (nb' = nb ∨ W.heap.size <= nb') /\ Two W' nb' u v /\ Below W.heap.size W W' := by
 have hT0 := hT
 obtain ⟨cs, fz, zs, h1, h2, -⟩ := hT
 obtain ⟨hR2, -⟩ := hR.newAt (o := .row [tgI .i64 x, tgI .i64 y] 3 .gro) (d := c - 2) hB hnb h1 (or_two h2)
 obtain ⟨v, R', n', hK, -, hsem⟩ := s_pgv32 ⟨a, x, y⟩ (fun v R' n' => (v = sc (popN 3) 2 /\ ∃ k j, isG (pyI 2 a).g (pyI 2 a).p k j /\ 0 <= turnG k j) ∨ ∃ b : XyB, (∃ k j, isG (pyI 2 a).g (pyI 2 a).p k j /\ turnG k j < 0 /\ payR k j (x + y) b.x b.y) /\ v = sc (popN 3 + 1) 2 /\ R' = [(popN 3 + 1, .p (.row [tgI .i64 b.x, tgI .i64 b.y] 3 (.grown 2)))] /\ n' = popN 3 + 2)
  ⟨hp, hx, hy⟩ ⟨fun _ h => .inl ⟨rfl, h⟩, fun b h => .inr ⟨b, h, rfl, rfl, rfl⟩, trivial⟩
 have hro : ∀ j o, (mem (twR (popN 3) x y :: pyR 3 a) (popN 3 + 1)).heap.get j = some o -> mayW o = false := ro_mem (by kernel_rfl)
 refine Calls.mono (sem_callsG (fn := Tryz.f62) (by kernel_rfl) rfl hsem hR2 (.cons (.ptr ((ext_other _ (by show 12 + 1 ≠ popN 3; decide)).trans hl)) (.cons (sl_two hc (ext_self _ _)) .nil)) hro) ?_
 rintro e W' ⟨v', σ', rfl, hv', hR', hS, hB'⟩
 rcases hK with ⟨rfl, k, j, hi, ht⟩ | ⟨b, ⟨k, j, hi, ht, hpay⟩, rfl, rfl, rfl⟩
 ·obtain ⟨nb', d, hs, rfl⟩ := hv'.slice_inv
  have he := hS.ext (popN 3) (Nat.lt_succ_self _)
  rw [hs] at he
  have he : some (nb', d) = some (nb, c - 2) := he.trans (ext_self _ _)
  cases he
  exact ⟨nb, 2 + (c - 2), x, y, rfl, by omega, ⟨k, j, hi, .inl ⟨ht, rfl, rfl⟩⟩, .inl rfl, hT0.below hB' hT0.lt, hB'⟩
 ·obtain ⟨nb', d, hs, rfl⟩ := hv'.slice_inv
  have hg : (mem [(popN 3 + 1, PO.p (.row [tgI .i64 b.x, tgI .i64 b.y] 3 (.grown 2)))] (popN 3 + 2)).heap.get (popN 3 + 1) = some (.row [tgI .i64 b.x, tgI .i64 b.y] 3 (.grown 2)) := by kernel_rfl
  refine ⟨nb', 2 + d, b.x, b.y, rfl, by omega, ⟨k, j, hi, .inr ⟨ht, hpay⟩⟩, .inr (Nat.le_of_not_lt fun hlt => ?_), two_of hR' rfl hs hg, hB'⟩
  obtain ⟨i, d', o, k1, k2, k3⟩ := hS.new (popN 3 + 1) nb' d _ (Nat.le_refl _) hs hg rfl hlt
  rw [hro i o k2] at k3
  cases k3
theorem gives_run40 (a : PyA) (hp : isGx (pyI 0 a).g (pyI 0 a).p) {σ : Sg} {w W : World} (hR : Rel Tryz.prog σ (mem (pyR 4 a) (popN 4)) w) {bl dl nb c : Nat} {x y : Int} (hl : σ (12 + 1) = some (bl, dl)) (hB : Below w.heap.size w W) (hnb : w.heap.size <= nb) (hc : 2 <= c) (hT : Two W nb x y) (hx : Sm x) (hy : Sm y) :
  Calls Tryz.prog 62 #[.pointer (some ⟨bl, 0 * 10, none⟩), .slice (some ⟨nb, 0, none⟩) 2 c] W fun e W' => ∃ nb' c' u v, e = .returned (.slice (some ⟨nb', 0, none⟩) 2 c') /\ 2 <= c' /\ pyGv a 0 x y u v /\ (nb' = nb ∨ W.heap.size <= nb') /\ Two W' nb' u v /\ Below W.heap.size W W' := by
 have hT0 := hT
 obtain ⟨cs, fz, zs, h1, h2, -⟩ := hT
 obtain ⟨hR2, -⟩ := hR.newAt (o := .row [tgI .i64 x, tgI .i64 y] 3 .gro) (d := c - 2) hB hnb h1 (or_two h2)
 obtain ⟨v, R', n', hK, -, hsem⟩ := s_pgv40 ⟨a, x, y⟩ (fun v R' n' => (v = sc (popN 4) 2 /\ ∃ k j, isG (pyI 0 a).g (pyI 0 a).p k j /\ 0 <= turnG k j) ∨ ∃ b : XyB, (∃ k j, isG (pyI 0 a).g (pyI 0 a).p k j /\ turnG k j < 0 /\ payR k j (x + y) b.x b.y) /\ v = sc (popN 4 + 1) 2 /\ R' = [(popN 4 + 1, .p (.row [tgI .i64 b.x, tgI .i64 b.y] 3 (.grown 2)))] /\ n' = popN 4 + 2)
  ⟨hp, hx, hy⟩ ⟨fun _ h => .inl ⟨rfl, h⟩, fun b h => .inr ⟨b, h, rfl, rfl, rfl⟩, trivial⟩
 have hro : ∀ j o, (mem (twR (popN 4) x y :: pyR 4 a) (popN 4 + 1)).heap.get j = some o -> mayW o = false := ro_mem (by kernel_rfl)
 refine Calls.mono (sem_callsG (fn := Tryz.f62) (by kernel_rfl) rfl hsem hR2 (.cons (.ptr ((ext_other _ (by show 12 + 1 ≠ popN 4; decide)).trans hl)) (.cons (sl_two hc (ext_self _ _)) .nil)) hro) ?_
 rintro e W' ⟨v', σ', rfl, hv', hR', hS, hB'⟩
 rcases hK with ⟨rfl, k, j, hi, ht⟩ | ⟨b, ⟨k, j, hi, ht, hpay⟩, rfl, rfl, rfl⟩
 ·obtain ⟨nb', d, hs, rfl⟩ := hv'.slice_inv
  have he := hS.ext (popN 4) (Nat.lt_succ_self _)
  rw [hs] at he
  have he : some (nb', d) = some (nb, c - 2) := he.trans (ext_self _ _)
  cases he
  exact ⟨nb, 2 + (c - 2), x, y, rfl, by omega, ⟨k, j, hi, .inl ⟨ht, rfl, rfl⟩⟩, .inl rfl, hT0.below hB' hT0.lt, hB'⟩
 ·obtain ⟨nb', d, hs, rfl⟩ := hv'.slice_inv
  have hg : (mem [(popN 4 + 1, PO.p (.row [tgI .i64 b.x, tgI .i64 b.y] 3 (.grown 2)))] (popN 4 + 2)).heap.get (popN 4 + 1) = some (.row [tgI .i64 b.x, tgI .i64 b.y] 3 (.grown 2)) := by kernel_rfl
  refine ⟨nb', 2 + d, b.x, b.y, rfl, by omega, ⟨k, j, hi, .inr ⟨ht, hpay⟩⟩, .inr (Nat.le_of_not_lt fun hlt => ?_), two_of hR' rfl hs hg, hB'⟩
  obtain ⟨i, d', o, k1, k2, k3⟩ := hS.new (popN 4 + 1) nb' d _ (Nat.le_refl _) hs hg rfl hlt
  rw [hro i o k2] at k3
  cases k3
theorem gives_run41 (a : PyA) (hp : isGx (pyI 1 a).g (pyI 1 a).p) {σ : Sg} {w W : World} (hR : Rel Tryz.prog σ (mem (pyR 4 a) (popN 4)) w) {bl dl nb c : Nat} {x y : Int} (hl : σ (12 + 1) = some (bl, dl)) (hB : Below w.heap.size w W) (hnb : w.heap.size <= nb) (hc : 2 <= c) (hT : Two W nb x y) (hx : Sm x) (hy : Sm y) :
  Calls Tryz.prog 62 #[.pointer (some ⟨bl, 1 * 10, none⟩), .slice (some ⟨nb, 0, none⟩) 2 c] W fun e W' => ∃ nb' c' u v, e = .returned (.slice (some ⟨nb', 0, none⟩) 2 c') /\ 2 <= c' /\ pyGv a 1 x y u v /\ (nb' = nb ∨ W.heap.size <= nb') /\ Two W' nb' u v /\ Below W.heap.size W W' := by
 have hT0 := hT
 obtain ⟨cs, fz, zs, h1, h2, -⟩ := hT
 obtain ⟨hR2, -⟩ := hR.newAt (o := .row [tgI .i64 x, tgI .i64 y] 3 .gro) (d := c - 2) hB hnb h1 (or_two h2)
 obtain ⟨v, R', n', hK, -, hsem⟩ := s_pgv41 ⟨a, x, y⟩ (fun v R' n' => (v = sc (popN 4) 2 /\ ∃ k j, isG (pyI 1 a).g (pyI 1 a).p k j /\ 0 <= turnG k j) ∨ ∃ b : XyB, (∃ k j, isG (pyI 1 a).g (pyI 1 a).p k j /\ turnG k j < 0 /\ payR k j (x + y) b.x b.y) /\ v = sc (popN 4 + 1) 2 /\ R' = [(popN 4 + 1, .p (.row [tgI .i64 b.x, tgI .i64 b.y] 3 (.grown 2)))] /\ n' = popN 4 + 2)
  ⟨hp, hx, hy⟩ ⟨fun _ h => .inl ⟨rfl, h⟩, fun b h => .inr ⟨b, h, rfl, rfl, rfl⟩, trivial⟩
 have hro : ∀ j o, (mem (twR (popN 4) x y :: pyR 4 a) (popN 4 + 1)).heap.get j = some o -> mayW o = false := ro_mem (by kernel_rfl)
 refine Calls.mono (sem_callsG (fn := Tryz.f62) (by kernel_rfl) rfl hsem hR2 (.cons (.ptr ((ext_other _ (by show 12 + 1 ≠ popN 4; decide)).trans hl)) (.cons (sl_two hc (ext_self _ _)) .nil)) hro) ?_
 rintro e W' ⟨v', σ', rfl, hv', hR', hS, hB'⟩
 rcases hK with ⟨rfl, k, j, hi, ht⟩ | ⟨b, ⟨k, j, hi, ht, hpay⟩, rfl, rfl, rfl⟩
 ·obtain ⟨nb', d, hs, rfl⟩ := hv'.slice_inv
  have he := hS.ext (popN 4) (Nat.lt_succ_self _)
  rw [hs] at he
  have he : some (nb', d) = some (nb, c - 2) := he.trans (ext_self _ _)
  cases he
  exact ⟨nb, 2 + (c - 2), x, y, rfl, by omega, ⟨k, j, hi, .inl ⟨ht, rfl, rfl⟩⟩, .inl rfl, hT0.below hB' hT0.lt, hB'⟩
 ·obtain ⟨nb', d, hs, rfl⟩ := hv'.slice_inv
  have hg : (mem [(popN 4 + 1, PO.p (.row [tgI .i64 b.x, tgI .i64 b.y] 3 (.grown 2)))] (popN 4 + 2)).heap.get (popN 4 + 1) = some (.row [tgI .i64 b.x, tgI .i64 b.y] 3 (.grown 2)) := by kernel_rfl
  refine ⟨nb', 2 + d, b.x, b.y, rfl, by omega, ⟨k, j, hi, .inr ⟨ht, hpay⟩⟩, .inr (Nat.le_of_not_lt fun hlt => ?_), two_of hR' rfl hs hg, hB'⟩
  obtain ⟨i, d', o, k1, k2, k3⟩ := hS.new (popN 4 + 1) nb' d _ (Nat.le_refl _) hs hg rfl hlt
  rw [hro i o k2] at k3
  cases k3
theorem gives_run42 (a : PyA) (hp : isGx (pyI 2 a).g (pyI 2 a).p) {σ : Sg} {w W : World} (hR : Rel Tryz.prog σ (mem (pyR 4 a) (popN 4)) w) {bl dl nb c : Nat} {x y : Int} (hl : σ (12 + 1) = some (bl, dl)) (hB : Below w.heap.size w W) (hnb : w.heap.size <= nb) (hc : 2 <= c) (hT : Two W nb x y) (hx : Sm x) (hy : Sm y) :
  Calls Tryz.prog 62 #[.pointer (some ⟨bl, 2 * 10, none⟩), .slice (some ⟨nb, 0, none⟩) 2 c] W fun e W' => ∃ nb' c' u v, e = .returned (.slice (some ⟨nb', 0, none⟩) 2 c') /\ 2 <= c' /\ pyGv a 2 x y u v /\ (nb' = nb ∨ W.heap.size <= nb') /\ Two W' nb' u v /\ Below W.heap.size W W' := by
 have hT0 := hT
 obtain ⟨cs, fz, zs, h1, h2, -⟩ := hT
 obtain ⟨hR2, -⟩ := hR.newAt (o := .row [tgI .i64 x, tgI .i64 y] 3 .gro) (d := c - 2) hB hnb h1 (or_two h2)
 obtain ⟨v, R', n', hK, -, hsem⟩ := s_pgv42 ⟨a, x, y⟩ (fun v R' n' => (v = sc (popN 4) 2 /\ ∃ k j, isG (pyI 2 a).g (pyI 2 a).p k j /\ 0 <= turnG k j) ∨ ∃ b : XyB, (∃ k j, isG (pyI 2 a).g (pyI 2 a).p k j /\ turnG k j < 0 /\ payR k j (x + y) b.x b.y) /\ v = sc (popN 4 + 1) 2 /\ R' = [(popN 4 + 1, .p (.row [tgI .i64 b.x, tgI .i64 b.y] 3 (.grown 2)))] /\ n' = popN 4 + 2)
  ⟨hp, hx, hy⟩ ⟨fun _ h => .inl ⟨rfl, h⟩, fun b h => .inr ⟨b, h, rfl, rfl, rfl⟩, trivial⟩
 have hro : ∀ j o, (mem (twR (popN 4) x y :: pyR 4 a) (popN 4 + 1)).heap.get j = some o -> mayW o = false := ro_mem (by kernel_rfl)
 refine Calls.mono (sem_callsG (fn := Tryz.f62) (by kernel_rfl) rfl hsem hR2 (.cons (.ptr ((ext_other _ (by show 12 + 1 ≠ popN 4; decide)).trans hl)) (.cons (sl_two hc (ext_self _ _)) .nil)) hro) ?_
 rintro e W' ⟨v', σ', rfl, hv', hR', hS, hB'⟩
 rcases hK with ⟨rfl, k, j, hi, ht⟩ | ⟨b, ⟨k, j, hi, ht, hpay⟩, rfl, rfl, rfl⟩
 ·obtain ⟨nb', d, hs, rfl⟩ := hv'.slice_inv
  have he := hS.ext (popN 4) (Nat.lt_succ_self _)
  rw [hs] at he
  have he : some (nb', d) = some (nb, c - 2) := he.trans (ext_self _ _)
  cases he
  exact ⟨nb, 2 + (c - 2), x, y, rfl, by omega, ⟨k, j, hi, .inl ⟨ht, rfl, rfl⟩⟩, .inl rfl, hT0.below hB' hT0.lt, hB'⟩
 ·obtain ⟨nb', d, hs, rfl⟩ := hv'.slice_inv
  have hg : (mem [(popN 4 + 1, PO.p (.row [tgI .i64 b.x, tgI .i64 b.y] 3 (.grown 2)))] (popN 4 + 2)).heap.get (popN 4 + 1) = some (.row [tgI .i64 b.x, tgI .i64 b.y] 3 (.grown 2)) := by kernel_rfl
  refine ⟨nb', 2 + d, b.x, b.y, rfl, by omega, ⟨k, j, hi, .inr ⟨ht, hpay⟩⟩, .inr (Nat.le_of_not_lt fun hlt => ?_), two_of hR' rfl hs hg, hB'⟩
  obtain ⟨i, d', o, k1, k2, k3⟩ := hS.new (popN 4 + 1) nb' d _ (Nat.le_refl _) hs hg rfl hlt
  rw [hro i o k2] at k3
  cases k3
theorem gives_run43 (a : PyA) (hp : isGx (pyI 3 a).g (pyI 3 a).p) {σ : Sg} {w W : World} (hR : Rel Tryz.prog σ (mem (pyR 4 a) (popN 4)) w) {bl dl nb c : Nat} {x y : Int} (hl : σ (12 + 1) = some (bl, dl)) (hB : Below w.heap.size w W) (hnb : w.heap.size <= nb) (hc : 2 <= c) (hT : Two W nb x y) (hx : Sm x) (hy : Sm y) :
  Calls Tryz.prog 62 #[.pointer (some ⟨bl, 3 * 10, none⟩), .slice (some ⟨nb, 0, none⟩) 2 c] W fun e W' => ∃ nb' c' u v, e = .returned (.slice (some ⟨nb', 0, none⟩) 2 c') /\ 2 <= c' /\ pyGv a 3 x y u v /\ (nb' = nb ∨ W.heap.size <= nb') /\ Two W' nb' u v /\ Below W.heap.size W W' := by
 have hT0 := hT
 obtain ⟨cs, fz, zs, h1, h2, -⟩ := hT
 obtain ⟨hR2, -⟩ := hR.newAt (o := .row [tgI .i64 x, tgI .i64 y] 3 .gro) (d := c - 2) hB hnb h1 (or_two h2)
 obtain ⟨v, R', n', hK, -, hsem⟩ := s_pgv43 ⟨a, x, y⟩ (fun v R' n' => (v = sc (popN 4) 2 /\ ∃ k j, isG (pyI 3 a).g (pyI 3 a).p k j /\ 0 <= turnG k j) ∨ ∃ b : XyB, (∃ k j, isG (pyI 3 a).g (pyI 3 a).p k j /\ turnG k j < 0 /\ payR k j (x + y) b.x b.y) /\ v = sc (popN 4 + 1) 2 /\ R' = [(popN 4 + 1, .p (.row [tgI .i64 b.x, tgI .i64 b.y] 3 (.grown 2)))] /\ n' = popN 4 + 2)
  ⟨hp, hx, hy⟩ ⟨fun _ h => .inl ⟨rfl, h⟩, fun b h => .inr ⟨b, h, rfl, rfl, rfl⟩, trivial⟩
 have hro : ∀ j o, (mem (twR (popN 4) x y :: pyR 4 a) (popN 4 + 1)).heap.get j = some o -> mayW o = false := ro_mem (by kernel_rfl)
 refine Calls.mono (sem_callsG (fn := Tryz.f62) (by kernel_rfl) rfl hsem hR2 (.cons (.ptr ((ext_other _ (by show 12 + 1 ≠ popN 4; decide)).trans hl)) (.cons (sl_two hc (ext_self _ _)) .nil)) hro) ?_
 rintro e W' ⟨v', σ', rfl, hv', hR', hS, hB'⟩
 rcases hK with ⟨rfl, k, j, hi, ht⟩ | ⟨b, ⟨k, j, hi, ht, hpay⟩, rfl, rfl, rfl⟩
 ·obtain ⟨nb', d, hs, rfl⟩ := hv'.slice_inv
  have he := hS.ext (popN 4) (Nat.lt_succ_self _)
  rw [hs] at he
  have he : some (nb', d) = some (nb, c - 2) := he.trans (ext_self _ _)
  cases he
  exact ⟨nb, 2 + (c - 2), x, y, rfl, by omega, ⟨k, j, hi, .inl ⟨ht, rfl, rfl⟩⟩, .inl rfl, hT0.below hB' hT0.lt, hB'⟩
 ·obtain ⟨nb', d, hs, rfl⟩ := hv'.slice_inv
  have hg : (mem [(popN 4 + 1, PO.p (.row [tgI .i64 b.x, tgI .i64 b.y] 3 (.grown 2)))] (popN 4 + 2)).heap.get (popN 4 + 1) = some (.row [tgI .i64 b.x, tgI .i64 b.y] 3 (.grown 2)) := by kernel_rfl
  refine ⟨nb', 2 + d, b.x, b.y, rfl, by omega, ⟨k, j, hi, .inr ⟨ht, hpay⟩⟩, .inr (Nat.le_of_not_lt fun hlt => ?_), two_of hR' rfl hs hg, hB'⟩
  obtain ⟨i, d', o, k1, k2, k3⟩ := hS.new (popN 4 + 1) nb' d _ (Nat.le_refl _) hs hg rfl hlt
  rw [hro i o k2] at k3
  cases k3
noncomputable section
structure PyX where
 a : PyA
 b : XyB
def G_py0 (q : PyX) : Prop := seenW Tryz.prog (popN 1) [(popN 1, popN 1)] (sc (popN 1) 2) (mem (twR (popN 1) q.b.x q.b.y :: pyR 1 q.a) (popN 1 + 1)) (sc (popN 1) 2) [(popN 1, .p (.row [tgI .i64 q.b.x, tgI .i64 q.b.y] 3 .gro))] (popN 1 + 1)
def G_py1 (q : PyX) : Prop := seenW Tryz.prog (popN 2) [(popN 2, popN 2)] (sc (popN 2) 2) (mem (twR (popN 2) q.b.x q.b.y :: pyR 2 q.a) (popN 2 + 1)) (sc (popN 2) 2) [(popN 2, .p (.row [tgI .i64 q.b.x, tgI .i64 q.b.y] 3 .gro))] (popN 2 + 1)
def G_py2 (q : PyX) : Prop := seenW Tryz.prog (popN 3) [(popN 3, popN 3)] (sc (popN 3) 2) (mem (twR (popN 3) q.b.x q.b.y :: pyR 3 q.a) (popN 3 + 1)) (sc (popN 3) 2) [(popN 3, .p (.row [tgI .i64 q.b.x, tgI .i64 q.b.y] 3 .gro))] (popN 3 + 1)
def G_py3 (q : PyX) : Prop := seenW Tryz.prog (popN 4) [(popN 4, popN 4)] (sc (popN 4) 2) (mem (twR (popN 4) q.b.x q.b.y :: pyR 4 q.a) (popN 4 + 1)) (sc (popN 4) 2) [(popN 4, .p (.row [tgI .i64 q.b.x, tgI .i64 q.b.y] 3 .gro))] (popN 4 + 1)
end
end Go.Proofs.YtfkacmmcgncooaaGreatDoor
end

/- Tables within tables: what is paid as they stand, for each depth, is as is told. -/
section
set_option maxRecDepth 100000
namespace Go.Proofs.YtfkacmmcgncooaaGreatDoor
open Go.Ev
open Go.RowKit (Below)
set_option linter.unusedSectionVars false
variable [Go.Ev.Frozen Tryz.prog]
theorem vc_py0 (q : PyX) : G_py0 q = (Z2 /\ (True /\ Z1 q.2.1 /\ Z1 q.2.2 /\ True) /\ True) := by kernel_rfl
theorem g_py0 (q : PyX) : G_py0 q := by
 rw [vc_py0]
 (and_intros<;>first|trivial|rfl)
theorem py_st1 (a : PyA) : celI (mem (pyR 1 a) (popN 1)).heap 12 0 = some (.slice (some ⟨12 + 1, 0, none⟩) (0 + 1) 1) := by kernel_rfl
theorem py_l10 (a : PyA) : celI (mem (pyR 1 a) (popN 1)).heap (12 + 1) (0 * 10 + 9) = some (.slice (some ⟨12 + 17, 0, none⟩) 2 2) /\ (mem (pyR 1 a) (popN 1)).heap.get (12 + 17) = some (.row [tgI .i64 (pyFa a 0), tgI .i64 (pyFb a 0)] 3 .gro) := ⟨by kernel_rfl, by kernel_rfl⟩
theorem s_pays0 : SpecOK Tryz.prog (S_pays 0).spec := fun a K hp hq => by
 have hp := allOK1 hp
 obtain ⟨u0, v0, hch⟩ := chL_ex hp (0 + 1) (Nat.le_refl _)
 have hs := g_py0 ⟨a, ⟨u0, v0⟩⟩
 unfold G_py0 at hs
 have hw := hs
 unfold seenW at hw
 refine ⟨_, _, _, hq.1 ⟨u0, v0⟩ ⟨hch⟩, flatR_rows (cpb_iff.1 hw).2.2, fnSem_seen (A := mem (pyR 1 a) (popN 1)) rfl (fun σ w args' hR ha => ?_) hs⟩
 cases ha with
 | cons a1 t1 =>
 cases t1
 obtain ⟨bs, d1, s1, rfl⟩ := a1.ptr_inv
 have hcell : ∀ {i k : Nat} {u : Value} {b d : Nat}, σ i = some (b, d) -> celI (mem (pyR 1 a) (popN 1)).heap i k = some u -> ∃ u', w.cell? ⟨b, k, none⟩ = some u' /\ VR σ u u' := fun {i k u b d} hs hu => by
  obtain ⟨c0, e0, m0, hg, hk⟩ := celI_some hu
  obtain ⟨cs, es, fz, hw0, hr, _⟩ := hR.rowA hs hg
  obtain ⟨u', hu', hv'⟩ := hr.get hk
  exact ⟨u', by simp [World.cell?, hw0, hu'], hv'⟩
 obtain ⟨u1, hu1, vu1⟩ := hcell s1 (py_st1 a)
 obtain ⟨bl, dl, sl, rfl⟩ := vu1.slice_inv
 have hcl : ∀ {i s : Nat}, celI (mem (pyR 1 a) (popN 1)).heap (12 + 1) (i * 10 + 9) = some (.slice (some ⟨s, 0, none⟩) 2 2) -> (mem (pyR 1 a) (popN 1)).heap.get s = some (.row [tgI .i64 (pyFa a i), tgI .i64 (pyFb a i)] 3 .gro) ->
   ∃ b c, w.cell? ⟨bl, i * 10 + 9, none⟩ = some (.slice (some ⟨b, 0, none⟩) 2 c) /\ ∀ W, Below w.heap.size w W -> Calls Tryz.prog 61 #[.slice (some ⟨b, 0, none⟩) 2 c] W fun e W' => ∃ nb c', e = .returned (.slice (some ⟨nb, 0, none⟩) 2 c') /\ 2 <= c' /\ W.heap.size <= nb /\ Two W' nb (pyFa a i) (pyFb a i) /\ Below W.heap.size W W' := fun {i s} q1 q2 => by
  obtain ⟨u2, hu2, vu2⟩ := hcell sl q1
  obtain ⟨b, d, sb, rfl⟩ := vu2.slice_inv
  obtain ⟨cs, es, fz, hw0, hr, -⟩ := hR.rowA sb q2
  obtain ⟨us, zs, t1, t2, -⟩ := hr.cells
  cases t2 with
  | cons z1 t2 =>
   cases t2 with
   | cons z2 t2 =>
    cases t2
    obtain rfl := sym_int z1
    obtain rfl := sym_int z2
    exact ⟨b, 2 + d, hu2, fun W hB => clone_run (hR.below hB).1 ((hB.block b (Array.getElem?_eq_some_iff.1 hw0).1).trans hw0) t1 (by omega)⟩
 have hrun := callsIn_wide.1 (pays_in Fence.wide 3 trivial trivial trivial trivial trivial rfl (fun h _ => callsIn_wide.2 h) (by decide) bs bl (1 + dl) 0 (pyFa a) (pyFb a) (pyGv a) w (by decide) hu1
  (fun i hi => by obtain ⟨-, h2, h3⟩ := hp i (by omega); exact ⟨h2, h3⟩) (fun i x y u v h hx hy => giv_ok h hx hy)
  (fun i hi => by
   match i, hi with
   | 0, _ => exact hcl (py_l10 a).1 (py_l10 a).2
   | (n + 1), hi => exact absurd hi (by omega))
  (fun i hi W nb c x y hB hnb hc hT hx hy => by
   match i, hi with
   | 0, _ => exact gives_run10 a (hp 0 (by decide)).1 hR sl hB hnb hc hT hx hy
   | (n + 1), hi => exact absurd hi (by omega)))
 refine .inr ⟨20, #[.pointer (some ⟨bs, 0, none⟩)], entered (envOK.name 20 Tryz.f20 (by kernel_rfl)) (by kernel_rfl) rfl _ w, Calls.mono hrun fun en w' he => ?_⟩
 obtain ⟨nb, c, u, v, rfl, hc, hge, hT, hch', hB⟩ := he
 obtain ⟨rfl, rfl⟩ := chL_fun hch' hch
 obtain ⟨cs, fz, zs, h1, h2, -⟩ := hT
 have k := hR.newAt (o := .row [tgI .i64 u, tgI .i64 v] 3 .gro) (d := c - 2) hB hge h1 (or_two h2)
 exact ⟨_, sl_two hc (ext_self _ _), k.1, k.2⟩
theorem vc_py1 (q : PyX) : G_py1 q = (Z2 /\ (True /\ Z1 q.2.1 /\ Z1 q.2.2 /\ True) /\ True) := by kernel_rfl
theorem g_py1 (q : PyX) : G_py1 q := by
 rw [vc_py1]
 (and_intros<;>first|trivial|rfl)
theorem py_st2 (a : PyA) : celI (mem (pyR 2 a) (popN 2)).heap 12 0 = some (.slice (some ⟨12 + 1, 0, none⟩) (1 + 1) 2) := by kernel_rfl
theorem py_l20 (a : PyA) : celI (mem (pyR 2 a) (popN 2)).heap (12 + 1) (0 * 10 + 9) = some (.slice (some ⟨12 + 17, 0, none⟩) 2 2) /\ (mem (pyR 2 a) (popN 2)).heap.get (12 + 17) = some (.row [tgI .i64 (pyFa a 0), tgI .i64 (pyFb a 0)] 3 .gro) := ⟨by kernel_rfl, by kernel_rfl⟩
theorem py_l21 (a : PyA) : celI (mem (pyR 2 a) (popN 2)).heap (12 + 1) (1 * 10 + 9) = some (.slice (some ⟨12 + 33, 0, none⟩) 2 2) /\ (mem (pyR 2 a) (popN 2)).heap.get (12 + 33) = some (.row [tgI .i64 (pyFa a 1), tgI .i64 (pyFb a 1)] 3 .gro) := ⟨by kernel_rfl, by kernel_rfl⟩
theorem s_pays1 : SpecOK Tryz.prog (S_pays 1).spec := fun a K hp hq => by
 have hp := allOK2 hp
 obtain ⟨u0, v0, hch⟩ := chL_ex hp (1 + 1) (Nat.le_refl _)
 have hs := g_py1 ⟨a, ⟨u0, v0⟩⟩
 unfold G_py1 at hs
 have hw := hs
 unfold seenW at hw
 refine ⟨_, _, _, hq.1 ⟨u0, v0⟩ ⟨hch⟩, flatR_rows (cpb_iff.1 hw).2.2, fnSem_seen (A := mem (pyR 2 a) (popN 2)) rfl (fun σ w args' hR ha => ?_) hs⟩
 cases ha with
 | cons a1 t1 =>
 cases t1
 obtain ⟨bs, d1, s1, rfl⟩ := a1.ptr_inv
 have hcell : ∀ {i k : Nat} {u : Value} {b d : Nat}, σ i = some (b, d) -> celI (mem (pyR 2 a) (popN 2)).heap i k = some u -> ∃ u', w.cell? ⟨b, k, none⟩ = some u' /\ VR σ u u' := fun {i k u b d} hs hu => by
  obtain ⟨c0, e0, m0, hg, hk⟩ := celI_some hu
  obtain ⟨cs, es, fz, hw0, hr, _⟩ := hR.rowA hs hg
  obtain ⟨u', hu', hv'⟩ := hr.get hk
  exact ⟨u', by simp [World.cell?, hw0, hu'], hv'⟩
 obtain ⟨u1, hu1, vu1⟩ := hcell s1 (py_st2 a)
 obtain ⟨bl, dl, sl, rfl⟩ := vu1.slice_inv
 have hcl : ∀ {i s : Nat}, celI (mem (pyR 2 a) (popN 2)).heap (12 + 1) (i * 10 + 9) = some (.slice (some ⟨s, 0, none⟩) 2 2) -> (mem (pyR 2 a) (popN 2)).heap.get s = some (.row [tgI .i64 (pyFa a i), tgI .i64 (pyFb a i)] 3 .gro) ->
   ∃ b c, w.cell? ⟨bl, i * 10 + 9, none⟩ = some (.slice (some ⟨b, 0, none⟩) 2 c) /\ ∀ W, Below w.heap.size w W -> Calls Tryz.prog 61 #[.slice (some ⟨b, 0, none⟩) 2 c] W fun e W' => ∃ nb c', e = .returned (.slice (some ⟨nb, 0, none⟩) 2 c') /\ 2 <= c' /\ W.heap.size <= nb /\ Two W' nb (pyFa a i) (pyFb a i) /\ Below W.heap.size W W' := fun {i s} q1 q2 => by
  obtain ⟨u2, hu2, vu2⟩ := hcell sl q1
  obtain ⟨b, d, sb, rfl⟩ := vu2.slice_inv
  obtain ⟨cs, es, fz, hw0, hr, -⟩ := hR.rowA sb q2
  obtain ⟨us, zs, t1, t2, -⟩ := hr.cells
  cases t2 with
  | cons z1 t2 =>
   cases t2 with
   | cons z2 t2 =>
    cases t2
    obtain rfl := sym_int z1
    obtain rfl := sym_int z2
    exact ⟨b, 2 + d, hu2, fun W hB => clone_run (hR.below hB).1 ((hB.block b (Array.getElem?_eq_some_iff.1 hw0).1).trans hw0) t1 (by omega)⟩
 have hrun := callsIn_wide.1 (pays_in Fence.wide 3 trivial trivial trivial trivial trivial rfl (fun h _ => callsIn_wide.2 h) (by decide) bs bl (2 + dl) 1 (pyFa a) (pyFb a) (pyGv a) w (by decide) hu1
  (fun i hi => by obtain ⟨-, h2, h3⟩ := hp i (by omega); exact ⟨h2, h3⟩) (fun i x y u v h hx hy => giv_ok h hx hy)
  (fun i hi => by
   match i, hi with
   | 0, _ => exact hcl (py_l20 a).1 (py_l20 a).2
   | 1, _ => exact hcl (py_l21 a).1 (py_l21 a).2
   | (n + 2), hi => exact absurd hi (by omega))
  (fun i hi W nb c x y hB hnb hc hT hx hy => by
   match i, hi with
   | 0, _ => exact gives_run20 a (hp 0 (by decide)).1 hR sl hB hnb hc hT hx hy
   | 1, _ => exact gives_run21 a (hp 1 (by decide)).1 hR sl hB hnb hc hT hx hy
   | (n + 2), hi => exact absurd hi (by omega)))
 refine .inr ⟨20, #[.pointer (some ⟨bs, 0, none⟩)], entered (envOK.name 20 Tryz.f20 (by kernel_rfl)) (by kernel_rfl) rfl _ w, Calls.mono hrun fun en w' he => ?_⟩
 obtain ⟨nb, c, u, v, rfl, hc, hge, hT, hch', hB⟩ := he
 obtain ⟨rfl, rfl⟩ := chL_fun hch' hch
 obtain ⟨cs, fz, zs, h1, h2, -⟩ := hT
 have k := hR.newAt (o := .row [tgI .i64 u, tgI .i64 v] 3 .gro) (d := c - 2) hB hge h1 (or_two h2)
 exact ⟨_, sl_two hc (ext_self _ _), k.1, k.2⟩
theorem vc_py2 (q : PyX) : G_py2 q = (Z2 /\ (True /\ Z1 q.2.1 /\ Z1 q.2.2 /\ True) /\ True) := by kernel_rfl
theorem g_py2 (q : PyX) : G_py2 q := by
 rw [vc_py2]
 (and_intros<;>first|trivial|rfl)
theorem py_st3 (a : PyA) : celI (mem (pyR 3 a) (popN 3)).heap 12 0 = some (.slice (some ⟨12 + 1, 0, none⟩) (2 + 1) 3) := by kernel_rfl
theorem py_l30 (a : PyA) : celI (mem (pyR 3 a) (popN 3)).heap (12 + 1) (0 * 10 + 9) = some (.slice (some ⟨12 + 17, 0, none⟩) 2 2) /\ (mem (pyR 3 a) (popN 3)).heap.get (12 + 17) = some (.row [tgI .i64 (pyFa a 0), tgI .i64 (pyFb a 0)] 3 .gro) := ⟨by kernel_rfl, by kernel_rfl⟩
theorem py_l31 (a : PyA) : celI (mem (pyR 3 a) (popN 3)).heap (12 + 1) (1 * 10 + 9) = some (.slice (some ⟨12 + 33, 0, none⟩) 2 2) /\ (mem (pyR 3 a) (popN 3)).heap.get (12 + 33) = some (.row [tgI .i64 (pyFa a 1), tgI .i64 (pyFb a 1)] 3 .gro) := ⟨by kernel_rfl, by kernel_rfl⟩
theorem py_l32 (a : PyA) : celI (mem (pyR 3 a) (popN 3)).heap (12 + 1) (2 * 10 + 9) = some (.slice (some ⟨12 + 49, 0, none⟩) 2 2) /\ (mem (pyR 3 a) (popN 3)).heap.get (12 + 49) = some (.row [tgI .i64 (pyFa a 2), tgI .i64 (pyFb a 2)] 3 .gro) := ⟨by kernel_rfl, by kernel_rfl⟩
theorem s_pays2 : SpecOK Tryz.prog (S_pays 2).spec := fun a K hp hq => by
 have hp := allOK3 hp
 obtain ⟨u0, v0, hch⟩ := chL_ex hp (2 + 1) (Nat.le_refl _)
 have hs := g_py2 ⟨a, ⟨u0, v0⟩⟩
 unfold G_py2 at hs
 have hw := hs
 unfold seenW at hw
 refine ⟨_, _, _, hq.1 ⟨u0, v0⟩ ⟨hch⟩, flatR_rows (cpb_iff.1 hw).2.2, fnSem_seen (A := mem (pyR 3 a) (popN 3)) rfl (fun σ w args' hR ha => ?_) hs⟩
 cases ha with
 | cons a1 t1 =>
 cases t1
 obtain ⟨bs, d1, s1, rfl⟩ := a1.ptr_inv
 have hcell : ∀ {i k : Nat} {u : Value} {b d : Nat}, σ i = some (b, d) -> celI (mem (pyR 3 a) (popN 3)).heap i k = some u -> ∃ u', w.cell? ⟨b, k, none⟩ = some u' /\ VR σ u u' := fun {i k u b d} hs hu => by
  obtain ⟨c0, e0, m0, hg, hk⟩ := celI_some hu
  obtain ⟨cs, es, fz, hw0, hr, _⟩ := hR.rowA hs hg
  obtain ⟨u', hu', hv'⟩ := hr.get hk
  exact ⟨u', by simp [World.cell?, hw0, hu'], hv'⟩
 obtain ⟨u1, hu1, vu1⟩ := hcell s1 (py_st3 a)
 obtain ⟨bl, dl, sl, rfl⟩ := vu1.slice_inv
 have hcl : ∀ {i s : Nat}, celI (mem (pyR 3 a) (popN 3)).heap (12 + 1) (i * 10 + 9) = some (.slice (some ⟨s, 0, none⟩) 2 2) -> (mem (pyR 3 a) (popN 3)).heap.get s = some (.row [tgI .i64 (pyFa a i), tgI .i64 (pyFb a i)] 3 .gro) ->
   ∃ b c, w.cell? ⟨bl, i * 10 + 9, none⟩ = some (.slice (some ⟨b, 0, none⟩) 2 c) /\ ∀ W, Below w.heap.size w W -> Calls Tryz.prog 61 #[.slice (some ⟨b, 0, none⟩) 2 c] W fun e W' => ∃ nb c', e = .returned (.slice (some ⟨nb, 0, none⟩) 2 c') /\ 2 <= c' /\ W.heap.size <= nb /\ Two W' nb (pyFa a i) (pyFb a i) /\ Below W.heap.size W W' := fun {i s} q1 q2 => by
  obtain ⟨u2, hu2, vu2⟩ := hcell sl q1
  obtain ⟨b, d, sb, rfl⟩ := vu2.slice_inv
  obtain ⟨cs, es, fz, hw0, hr, -⟩ := hR.rowA sb q2
  obtain ⟨us, zs, t1, t2, -⟩ := hr.cells
  cases t2 with
  | cons z1 t2 =>
   cases t2 with
   | cons z2 t2 =>
    cases t2
    obtain rfl := sym_int z1
    obtain rfl := sym_int z2
    exact ⟨b, 2 + d, hu2, fun W hB => clone_run (hR.below hB).1 ((hB.block b (Array.getElem?_eq_some_iff.1 hw0).1).trans hw0) t1 (by omega)⟩
 have hrun := callsIn_wide.1 (pays_in Fence.wide 3 trivial trivial trivial trivial trivial rfl (fun h _ => callsIn_wide.2 h) (by decide) bs bl (3 + dl) 2 (pyFa a) (pyFb a) (pyGv a) w (by decide) hu1
  (fun i hi => by obtain ⟨-, h2, h3⟩ := hp i (by omega); exact ⟨h2, h3⟩) (fun i x y u v h hx hy => giv_ok h hx hy)
  (fun i hi => by
   match i, hi with
   | 0, _ => exact hcl (py_l30 a).1 (py_l30 a).2
   | 1, _ => exact hcl (py_l31 a).1 (py_l31 a).2
   | 2, _ => exact hcl (py_l32 a).1 (py_l32 a).2
   | (n + 3), hi => exact absurd hi (by omega))
  (fun i hi W nb c x y hB hnb hc hT hx hy => by
   match i, hi with
   | 0, _ => exact gives_run30 a (hp 0 (by decide)).1 hR sl hB hnb hc hT hx hy
   | 1, _ => exact gives_run31 a (hp 1 (by decide)).1 hR sl hB hnb hc hT hx hy
   | 2, _ => exact gives_run32 a (hp 2 (by decide)).1 hR sl hB hnb hc hT hx hy
   | (n + 3), hi => exact absurd hi (by omega)))
 refine .inr ⟨20, #[.pointer (some ⟨bs, 0, none⟩)], entered (envOK.name 20 Tryz.f20 (by kernel_rfl)) (by kernel_rfl) rfl _ w, Calls.mono hrun fun en w' he => ?_⟩
 obtain ⟨nb, c, u, v, rfl, hc, hge, hT, hch', hB⟩ := he
 obtain ⟨rfl, rfl⟩ := chL_fun hch' hch
 obtain ⟨cs, fz, zs, h1, h2, -⟩ := hT
 have k := hR.newAt (o := .row [tgI .i64 u, tgI .i64 v] 3 .gro) (d := c - 2) hB hge h1 (or_two h2)
 exact ⟨_, sl_two hc (ext_self _ _), k.1, k.2⟩
theorem vc_py3 (q : PyX) : G_py3 q = (Z2 /\ (True /\ Z1 q.2.1 /\ Z1 q.2.2 /\ True) /\ True) := by kernel_rfl
theorem g_py3 (q : PyX) : G_py3 q := by
 rw [vc_py3]
 (and_intros<;>first|trivial|rfl)
theorem py_st4 (a : PyA) : celI (mem (pyR 4 a) (popN 4)).heap 12 0 = some (.slice (some ⟨12 + 1, 0, none⟩) (3 + 1) 4) := by kernel_rfl
theorem py_l40 (a : PyA) : celI (mem (pyR 4 a) (popN 4)).heap (12 + 1) (0 * 10 + 9) = some (.slice (some ⟨12 + 17, 0, none⟩) 2 2) /\ (mem (pyR 4 a) (popN 4)).heap.get (12 + 17) = some (.row [tgI .i64 (pyFa a 0), tgI .i64 (pyFb a 0)] 3 .gro) := ⟨by kernel_rfl, by kernel_rfl⟩
theorem py_l41 (a : PyA) : celI (mem (pyR 4 a) (popN 4)).heap (12 + 1) (1 * 10 + 9) = some (.slice (some ⟨12 + 33, 0, none⟩) 2 2) /\ (mem (pyR 4 a) (popN 4)).heap.get (12 + 33) = some (.row [tgI .i64 (pyFa a 1), tgI .i64 (pyFb a 1)] 3 .gro) := ⟨by kernel_rfl, by kernel_rfl⟩
theorem py_l42 (a : PyA) : celI (mem (pyR 4 a) (popN 4)).heap (12 + 1) (2 * 10 + 9) = some (.slice (some ⟨12 + 49, 0, none⟩) 2 2) /\ (mem (pyR 4 a) (popN 4)).heap.get (12 + 49) = some (.row [tgI .i64 (pyFa a 2), tgI .i64 (pyFb a 2)] 3 .gro) := ⟨by kernel_rfl, by kernel_rfl⟩
theorem py_l43 (a : PyA) : celI (mem (pyR 4 a) (popN 4)).heap (12 + 1) (3 * 10 + 9) = some (.slice (some ⟨12 + 65, 0, none⟩) 2 2) /\ (mem (pyR 4 a) (popN 4)).heap.get (12 + 65) = some (.row [tgI .i64 (pyFa a 3), tgI .i64 (pyFb a 3)] 3 .gro) := ⟨by kernel_rfl, by kernel_rfl⟩
theorem s_pays3 : SpecOK Tryz.prog (S_pays 3).spec := fun a K hp hq => by
 have hp := allOK4 hp
 obtain ⟨u0, v0, hch⟩ := chL_ex hp (3 + 1) (Nat.le_refl _)
 have hs := g_py3 ⟨a, ⟨u0, v0⟩⟩
 unfold G_py3 at hs
 have hw := hs
 unfold seenW at hw
 refine ⟨_, _, _, hq.1 ⟨u0, v0⟩ ⟨hch⟩, flatR_rows (cpb_iff.1 hw).2.2, fnSem_seen (A := mem (pyR 4 a) (popN 4)) rfl (fun σ w args' hR ha => ?_) hs⟩
 cases ha with
 | cons a1 t1 =>
 cases t1
 obtain ⟨bs, d1, s1, rfl⟩ := a1.ptr_inv
 have hcell : ∀ {i k : Nat} {u : Value} {b d : Nat}, σ i = some (b, d) -> celI (mem (pyR 4 a) (popN 4)).heap i k = some u -> ∃ u', w.cell? ⟨b, k, none⟩ = some u' /\ VR σ u u' := fun {i k u b d} hs hu => by
  obtain ⟨c0, e0, m0, hg, hk⟩ := celI_some hu
  obtain ⟨cs, es, fz, hw0, hr, _⟩ := hR.rowA hs hg
  obtain ⟨u', hu', hv'⟩ := hr.get hk
  exact ⟨u', by simp [World.cell?, hw0, hu'], hv'⟩
 obtain ⟨u1, hu1, vu1⟩ := hcell s1 (py_st4 a)
 obtain ⟨bl, dl, sl, rfl⟩ := vu1.slice_inv
 have hcl : ∀ {i s : Nat}, celI (mem (pyR 4 a) (popN 4)).heap (12 + 1) (i * 10 + 9) = some (.slice (some ⟨s, 0, none⟩) 2 2) -> (mem (pyR 4 a) (popN 4)).heap.get s = some (.row [tgI .i64 (pyFa a i), tgI .i64 (pyFb a i)] 3 .gro) ->
   ∃ b c, w.cell? ⟨bl, i * 10 + 9, none⟩ = some (.slice (some ⟨b, 0, none⟩) 2 c) /\ ∀ W, Below w.heap.size w W -> Calls Tryz.prog 61 #[.slice (some ⟨b, 0, none⟩) 2 c] W fun e W' => ∃ nb c', e = .returned (.slice (some ⟨nb, 0, none⟩) 2 c') /\ 2 <= c' /\ W.heap.size <= nb /\ Two W' nb (pyFa a i) (pyFb a i) /\ Below W.heap.size W W' := fun {i s} q1 q2 => by
  obtain ⟨u2, hu2, vu2⟩ := hcell sl q1
  obtain ⟨b, d, sb, rfl⟩ := vu2.slice_inv
  obtain ⟨cs, es, fz, hw0, hr, -⟩ := hR.rowA sb q2
  obtain ⟨us, zs, t1, t2, -⟩ := hr.cells
  cases t2 with
  | cons z1 t2 =>
   cases t2 with
   | cons z2 t2 =>
    cases t2
    obtain rfl := sym_int z1
    obtain rfl := sym_int z2
    exact ⟨b, 2 + d, hu2, fun W hB => clone_run (hR.below hB).1 ((hB.block b (Array.getElem?_eq_some_iff.1 hw0).1).trans hw0) t1 (by omega)⟩
 have hrun := callsIn_wide.1 (pays_in Fence.wide 3 trivial trivial trivial trivial trivial rfl (fun h _ => callsIn_wide.2 h) (by decide) bs bl (4 + dl) 3 (pyFa a) (pyFb a) (pyGv a) w (by decide) hu1
  (fun i hi => by obtain ⟨-, h2, h3⟩ := hp i (by omega); exact ⟨h2, h3⟩) (fun i x y u v h hx hy => giv_ok h hx hy)
  (fun i hi => by
   match i, hi with
   | 0, _ => exact hcl (py_l40 a).1 (py_l40 a).2
   | 1, _ => exact hcl (py_l41 a).1 (py_l41 a).2
   | 2, _ => exact hcl (py_l42 a).1 (py_l42 a).2
   | 3, _ => exact hcl (py_l43 a).1 (py_l43 a).2
   | (n + 4), hi => exact absurd hi (by omega))
  (fun i hi W nb c x y hB hnb hc hT hx hy => by
   match i, hi with
   | 0, _ => exact gives_run40 a (hp 0 (by decide)).1 hR sl hB hnb hc hT hx hy
   | 1, _ => exact gives_run41 a (hp 1 (by decide)).1 hR sl hB hnb hc hT hx hy
   | 2, _ => exact gives_run42 a (hp 2 (by decide)).1 hR sl hB hnb hc hT hx hy
   | 3, _ => exact gives_run43 a (hp 3 (by decide)).1 hR sl hB hnb hc hT hx hy
   | (n + 4), hi => exact absurd hi (by omega)))
 refine .inr ⟨20, #[.pointer (some ⟨bs, 0, none⟩)], entered (envOK.name 20 Tryz.f20 (by kernel_rfl)) (by kernel_rfl) rfl _ w, Calls.mono hrun fun en w' he => ?_⟩
 obtain ⟨nb, c, u, v, rfl, hc, hge, hT, hch', hB⟩ := he
 obtain ⟨rfl, rfl⟩ := chL_fun hch' hch
 obtain ⟨cs, fz, zs, h1, h2, -⟩ := hT
 have k := hR.newAt (o := .row [tgI .i64 u, tgI .i64 v] 3 .gro) (d := c - 2) hB hge h1 (or_two h2)
 exact ⟨_, sl_two hc (ext_self _ _), k.1, k.2⟩
end Go.Proofs.YtfkacmmcgncooaaGreatDoor
end
