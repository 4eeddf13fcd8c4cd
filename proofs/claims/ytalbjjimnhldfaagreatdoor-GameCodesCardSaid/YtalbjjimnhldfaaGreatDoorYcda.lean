/- The law of codes, for any positions as they come in. -/
import Derived.Test.YtalbjjimnhldfaaGreatDoorYcd
import Derived.Test.YtalbjjimnhldfaaGreatDoorYbr
set_option maxRecDepth 100000
namespace Go.Proofs.YtalbjjimnhldfaaGreatDoor
open Go.RowKit Go.Ev Go.ChangeShapes Go.WideShapes Go.ChangeAt Go.Joins
theorem okPos {w : World} {base : Nat} {cs : Array Value} (h : Value.okWide Tryz.prog w .any base 37 (.agg cs)) : ∀ (i : Nat) (u : TypeId) (v : Value), ([31, 32, 33] : List TypeId)[i]? = some u → cs[i]? = some v → Cell.okWide Tryz.prog w .any base u v := by
  unfold Value.okWide at h
  rw [Tryz.underlying37] at h
  obtain ⟨cs', hcs, hsz, ts, hts, _, hall⟩ := h
  cases hcs
  have hts2 : Tryz.prog.cellTypes Tryz.prog.depth 37 = some [31, 32, 33, 3, 3, 3, 3, 22] := by kernel_rfl
  rw [hts2] at hts
  cases hts
  intro i u v hi hv
  obtain ⟨u', h1, h2⟩ := hall i v hv
  match i, hi with
  | 0, hi => cases hi; cases h1; exact h2
  | 1, hi => cases hi; cases h1; exact h2
  | 2, hi => cases hi; cases h1; exact h2
  | n + 3, hi => simp at hi
theorem flat_byt {ds : List (List Int)} (h : ∀ d ∈ ds, Dig d) : Byts8 ds.flatten := fun b hb => by
  obtain ⟨d, h1, h2⟩ := List.mem_flatten.1 hb
  exact (h d h1).2 b h2
structure PosIn (w : World) (A B C : Option Addr) (n1 c1 n2 c2 n3 c3 : Nat) (y : PosD) : Prop where
  hy : PosAt w A B C n1 n2 n3 y
  q1 : A = none → c1 = 0
  q2 : B = none → c2 = 0
  q3 : C = none → c3 = 0
  l1 : n1 ≤ c1
  l2 : n2 ≤ c2
  l3 : n3 ≤ c3
  o1 : ∀ a, A = some a → a.spot = none ∧ ∃ cs ty fz, w.heap[a.block]? = some (.cells cs ty fz) ∧ a.off ≤ cs.size
  o2 : ∀ a, B = some a → a.spot = none ∧ ∃ cs ty fz, w.heap[a.block]? = some (.cells cs ty fz) ∧ a.off ≤ cs.size
  o3 : ∀ a, C = some a → a.spot = none ∧ ∃ cs ty fz, w.heap[a.block]? = some (.cells cs ty fz) ∧ a.off ≤ cs.size
theorem tips_at {w : World} {A B C : Option Addr} {n1 n2 n3 : Nat} {y : PosD} (hy : PosAt w A B C n1 n2 n3 y) (h : 0 < n3) : ∃ b off, C = some ⟨b, off, none⟩ ∧ b < w.heap.size ∧ ∀ i x, y.tips.flatten[i]? = some x → w.cell? ⟨b, off + i, none⟩ = some (.int .u8 x) := by
  obtain ⟨b, off, e1, e2, e3⟩ := hy.tips.at_ h
  refine ⟨b, off, e1, e2, fun i x hx => ?_⟩
  obtain ⟨d, h1, h2⟩ := flat_dig hy.digs i x hx
  have := e3 (i / 8) d h1 (i % 8) (.int .u8 x) (by simp [digL, h2])
  rw [show off + i / 8 * 8 + i % 8 = off + i by omega] at this
  exact this
theorem codes_sem (a : PAt) (h1 : ∃ x, PH a.p x ∧ PW a.p x ∧ Byts8 x.tips) (h2 : ∃ y, PH a.o y ∧ PW a.o y ∧ Byts8 y.tips) (hn : -9223372036854775808 ≤ a.n ∧ a.n ≤ 9223372036854775807) : ∃ B, FnSem Tryz.prog 5 (S_codes.args a) (mem (S_codes.R a) S_codes.n) (.bool true) B := by
  obtain ⟨v, R', n', hK, _, h⟩ := s_codes a (fun v _ _ => v = .bool true) ⟨h1, h2, hn⟩ ⟨fun _ _ => rfl, trivial⟩
  subst hK
  exact ⟨_, h⟩
theorem walkC (n : Int) (hn : -9223372036854775808 ≤ n ∧ n ≤ 9223372036854775807) (w : World) (hL : LaidIn G0 w) (A B C : Option Addr) (n1 c1 n2 c2 n3 c3 : Nat) (y : PosD) (hp : PosIn w A B C n1 c1 n2 c2 n3 c3 y)
    (D E F : Option Addr) (m1 d1 m2 d2 m3 d3 : Nat) (z : PosD) (ho : PosIn w D E F m1 d1 m2 d2 m3 d3 z) :
    Calls Tryz.prog 5 #[.agg #[.slice A n1 c1, .slice B n2 c2, .slice C n3 c3, .int .i64 y.roll.cell, .int .i64 y.roll.sides, .int .i64 y.roll.mover, .int .i64 y.roll.next, .int .u64 y.roll.sum], .agg #[.slice D m1 d1, .slice E m2 d2, .slice F m3 d3, .int .i64 z.roll.cell, .int .i64 z.roll.sides, .int .i64 z.roll.mover, .int .i64 z.roll.next, .int .u64 z.roll.sum], .int .i64 n] w fun e w' => e = .returned (.bool true) ∧ Below w.heap.size w w' := by
  obtain ⟨b1, p1, r1, k1, s1, t1, u1⟩ := sli_in (f := Value.int .i32) (fun _ => rfl) (sz := 1) (by rw [hp.hy.vars.len, Nat.mul_one]) hp.hy.vars.at_ hp.q1 hp.l1 (by omega) hp.o1
  obtain ⟨b2, p2, r2, k2, s2, t2, u2⟩ := sli_in (f := Value.bool) (fun _ => rfl) (sz := 1) (by rw [hp.hy.gone.len, Nat.mul_one]) hp.hy.gone.at_ hp.q2 hp.l2 (by omega) hp.o2
  obtain ⟨b3, p3, r3, k3, s3, t3, u3⟩ := sli_in (f := Value.int .u8) (fun _ => rfl) (sz := 8) (xs := y.tips.flatten) (by rw [flat_join hp.hy.digs, hp.hy.tips.len]) (tips_at hp.hy) hp.q3 hp.l3 (by omega) hp.o3
  obtain ⟨b4, p4, r4, k4, s4, t4, u4⟩ := sli_in (f := Value.int .i32) (fun _ => rfl) (sz := 1) (by rw [ho.hy.vars.len, Nat.mul_one]) ho.hy.vars.at_ ho.q1 ho.l1 (by omega) ho.o1
  obtain ⟨b5, p5, r5, k5, s5, t5, u5⟩ := sli_in (f := Value.bool) (fun _ => rfl) (sz := 1) (by rw [ho.hy.gone.len, Nat.mul_one]) ho.hy.gone.at_ ho.q2 ho.l2 (by omega) ho.o2
  obtain ⟨b6, p6, r6, k6, s6, t6, u6⟩ := sli_in (f := Value.int .u8) (fun _ => rfl) (sz := 8) (xs := z.tips.flatten) (by rw [flat_join ho.hy.digs, ho.hy.tips.len]) (tips_at ho.hy) ho.q3 ho.l3 (by omega) ho.o3
  have hng : Tryz.prog.globals.size = 12 := by kernel_rfl
  have hR0 := Rel.laid (P := Tryz.prog) (G := G0) (ng := 12) hng (by kernel_rfl) (by kernel_rfl) hL
  obtain ⟨hR6, w6⟩ := Rel.addRo (i := 12 + 5) (n' := 12 + 6) hR0 glob_ro (if_neg (by omega)) (by omega) (by omega) (by omega) r6 29 k6 t6
  obtain ⟨hR5, w5⟩ := Rel.addRo (i := 12 + 4) (n' := 12 + 6) hR6 w6 (by show (if 12 + 4 = 12 + 5 then _ else _) = none; rw [if_neg (by omega)]; exact if_neg (by omega)) (by omega) (by omega) (by omega) r5 4 k5 t5
  obtain ⟨hR4, w4⟩ := Rel.addRo (i := 12 + 3) (n' := 12 + 6) hR5 w5 (by show (if 12 + 3 = 12 + 4 then _ else _) = none; rw [if_neg (by omega)]; show (if 12 + 3 = 12 + 5 then _ else _) = none; rw [if_neg (by omega)]; exact if_neg (by omega)) (by omega) (by omega) (by omega) r4 21 k4 t4
  obtain ⟨hR3, w3⟩ := Rel.addRo (i := 12 + 2) (n' := 12 + 6) hR4 w4 (by show (if 12 + 2 = 12 + 3 then _ else _) = none; rw [if_neg (by omega)]; show (if 12 + 2 = 12 + 4 then _ else _) = none; rw [if_neg (by omega)]; show (if 12 + 2 = 12 + 5 then _ else _) = none; rw [if_neg (by omega)]; exact if_neg (by omega)) (by omega) (by omega) (by omega) r3 29 k3 t3
  obtain ⟨hR2, w2⟩ := Rel.addRo (i := 12 + 1) (n' := 12 + 6) hR3 w3 (by show (if 12 + 1 = 12 + 2 then _ else _) = none; rw [if_neg (by omega)]; show (if 12 + 1 = 12 + 3 then _ else _) = none; rw [if_neg (by omega)]; show (if 12 + 1 = 12 + 4 then _ else _) = none; rw [if_neg (by omega)]; show (if 12 + 1 = 12 + 5 then _ else _) = none; rw [if_neg (by omega)]; exact if_neg (by omega)) (by omega) (by omega) (by omega) r2 4 k2 t2
  obtain ⟨hR1, w1⟩ := Rel.addRo (i := 12) (n' := 12 + 6) hR2 w2 (by show (if 12 = 12 + 1 then _ else _) = none; rw [if_neg (by omega)]; show (if 12 = 12 + 2 then _ else _) = none; rw [if_neg (by omega)]; show (if 12 = 12 + 3 then _ else _) = none; rw [if_neg (by omega)]; show (if 12 = 12 + 4 then _ else _) = none; rw [if_neg (by omega)]; show (if 12 = 12 + 5 then _ else _) = none; rw [if_neg (by omega)]; exact if_neg (by omega)) (by omega) (by omega) (by omega) r1 21 k1 t1
  let a : PAt := ⟨⟨⟨b1, p1, n1, c1, r1⟩, ⟨b2, p2, n2, c2, r2⟩, ⟨b3, p3, n3, c3, r3⟩, y.roll.cell, y.roll.sides, y.roll.mover, y.roll.next, y.roll.sum⟩, ⟨⟨b4, p4, m1, d1, r4⟩, ⟨b5, p5, m2, d2, r5⟩, ⟨b6, p6, m3, d3, r6⟩, z.roll.cell, z.roll.sides, z.roll.mover, z.roll.next, z.roll.sum⟩, n⟩
  obtain ⟨Bm, hsem⟩ := codes_sem a ⟨⟨y.vars, y.gone, y.tips.flatten⟩, ⟨s1, s2, s3⟩, ⟨hp.hy.w32, wfS hp.hy.ok.cell, wfS hp.hy.ok.sides, wfS hp.hy.ok.mover, wfS hp.hy.ok.next, wfU hp.hy.ok.sum⟩, flat_byt hp.hy.digs⟩
    ⟨⟨z.vars, z.gone, z.tips.flatten⟩, ⟨s4, s5, s6⟩, ⟨ho.hy.w32, wfS ho.hy.ok.cell, wfS ho.hy.ok.sides, wfS ho.hy.ok.mover, wfS ho.hy.ok.next, wfU ho.hy.ok.sum⟩, flat_byt ho.hy.digs⟩ hn
  have hmem : mem (S_codes.R a) S_codes.n = ⟨((((((putAll G0 .e).set (12 + 5) (.row r6 29 .gro)).set (12 + 4) (.row r5 4 .gro)).set (12 + 3) (.row r4 21 .gro)).set (12 + 2) (.row r3 29 .gro)).set (12 + 1) (.row r2 4 .gro)).set 12 (.row r1 21 .gro), 12 + 6⟩ := by
    have := congrArg AW.heap globs
    show (⟨((((((mem globR 12).heap.set (12 + 5) _).set (12 + 4) _).set (12 + 3) _).set (12 + 2) _).set (12 + 1) _).set 12 _, _⟩ : AW) = _
    rw [this]
    rfl
  rw [hmem] at hsem
  refine sem_calls envOK (fn := Tryz.f5) (by kernel_rfl) rfl rfl hsem hR1 ?_ w1
  refine .cons (.agg (.cons (u1 _ _ ?_) (.cons (u2 _ _ ?_) (.cons (u3 _ _ ?_) (.cons (tgI_vr _ _) (.cons (tgI_vr _ _) (.cons (tgI_vr _ _) (.cons (tgI_vr _ _) (.cons (tgI_vr _ _) .nil))))))))) (.cons (.agg (.cons (u4 _ _ ?_) (.cons (u5 _ _ ?_) (.cons (u6 _ _ ?_) (.cons (tgI_vr _ _) (.cons (tgI_vr _ _) (.cons (tgI_vr _ _) (.cons (tgI_vr _ _) (.cons (tgI_vr _ _) .nil))))))))) (.cons (tgI_vr _ _) .nil))
  · exact if_pos rfl
  · show (if 12 + 1 = 12 then _ else _) = _; rw [if_neg (by omega)]; exact if_pos rfl
  · show (if 12 + 2 = 12 then _ else _) = _; rw [if_neg (by omega)]; show (if 12 + 2 = 12 + 1 then _ else _) = _; rw [if_neg (by omega)]; exact if_pos rfl
  · show (if 12 + 3 = 12 then _ else _) = _; rw [if_neg (by omega)]; show (if 12 + 3 = 12 + 1 then _ else _) = _; rw [if_neg (by omega)]; show (if 12 + 3 = 12 + 2 then _ else _) = _; rw [if_neg (by omega)]; exact if_pos rfl
  · show (if 12 + 4 = 12 then _ else _) = _; rw [if_neg (by omega)]; show (if 12 + 4 = 12 + 1 then _ else _) = _; rw [if_neg (by omega)]; show (if 12 + 4 = 12 + 2 then _ else _) = _; rw [if_neg (by omega)]; show (if 12 + 4 = 12 + 3 then _ else _) = _; rw [if_neg (by omega)]; exact if_pos rfl
  · show (if 12 + 5 = 12 then _ else _) = _; rw [if_neg (by omega)]; show (if 12 + 5 = 12 + 1 then _ else _) = _; rw [if_neg (by omega)]; show (if 12 + 5 = 12 + 2 then _ else _) = _; rw [if_neg (by omega)]; show (if 12 + 5 = 12 + 3 then _ else _) = _; rw [if_neg (by omega)]; show (if 12 + 5 = 12 + 4 then _ else _) = _; rw [if_neg (by omega)]; exact if_pos rfl
end Go.Proofs.YtalbjjimnhldfaaGreatDoor
