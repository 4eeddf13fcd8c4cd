/- The law of moves, for any moves as they come in. -/
import Derived.Test.YtalbjjimnhldfaaGreatDoorYml
import Derived.Test.YtalbjjimnhldfaaGreatDoorYbr
set_option maxRecDepth 100000
namespace Go.Proofs.YtalbjjimnhldfaaGreatDoor
open Go.RowKit Go.Ev Go.ChangeShapes Go.WideShapes Go.ChangeAt Go.Joins
theorem moveCells : Tryz.prog.cellsOf 43 = 10 := by kernel_rfl
theorem bool1 : Tryz.prog.cellsOf 4 = 1 := by kernel_rfl
abbrev d8V (d : D8) : List Value := [.int .u8 d.d0, .int .u8 d.d1, .int .u8 d.d2, .int .u8 d.d3, .int .u8 d.d4, .int .u8 d.d5, .int .u8 d.d6, .int .u8 d.d7]
theorem d8_of {cs : List Value} (h : ∃ d : List Int, cs = digL d ∧ Dig d) : ∃ d : D8, cs = d8V d ∧ d.Ok := by
  obtain ⟨d, rfl, hl, hb⟩ := h
  match d, hl with
  | [a0, a1, a2, a3, a4, a5, a6, a7], _ =>
  exact ⟨⟨a0, a1, a2, a3, a4, a5, a6, a7⟩, rfl, hb a0 (by simp), hb a1 (by simp), hb a2 (by simp), hb a3 (by simp), hb a4 (by simp), hb a5 (by simp), hb a6 (by simp), hb a7 (by simp)⟩
section
variable {H : Type} {enc : TypeId × Value → H} {W : World} {base : Nat} {spare : Nat → Bool} {held : Bool}
theorem move_in {fuel : Nat} {cs : List Value} {x : DataW H × List MemPlace} (h : DataW.trod enc Tryz.prog W base spare held fuel 43 cs = some x) :
    ∃ (t : Bool) (A : Option Addr) (n c : Nat) (xs : List Int) (d : D8), Sl (Value.int .i32) W A n xs ∧ W32 xs ∧ d.Ok ∧ cs = .bool t :: .slice A n c :: d8V d ∧ (A = none → c = 0) ∧ n ≤ c := by
  obtain ⟨xs, n, rfl, rfl, hl, hx, hi⟩ := DataW.trod_struct Tryz.underlying43 h
  rw [moveCells] at hl
  have hxl : xs.length = 3 := by rw [hx]; kernel_rfl
  match cs, hl with
  | [c0, c1, c2, c3, c4, c5, c6, c7, c8, c9], _ =>
  match xs, hxl with
  | [x0, x1, x2], _ =>
  have e0 : DataW.trod enc Tryz.prog W base spare held n 4 (([c0, c1, c2, c3, c4, c5, c6, c7, c8, c9].drop 0).take (Tryz.prog.cellsOf 4)) = _ := hi 0 _ rfl
  have e1 : DataW.trod enc Tryz.prog W base spare held n 31 (([c0, c1, c2, c3, c4, c5, c6, c7, c8, c9].drop 1).take (Tryz.prog.cellsOf 31)) = _ := hi 1 _ rfl
  have e2 : DataW.trod enc Tryz.prog W base spare held n 29 (([c0, c1, c2, c3, c4, c5, c6, c7, c8, c9].drop 2).take (Tryz.prog.cellsOf 29)) = _ := hi 2 _ rfl
  simp only [bool1, i32sCells, digCells, List.getElem?_cons_zero, List.getElem?_cons_succ, List.drop_zero, List.drop_succ_cons, List.take_succ_cons, List.take_zero] at e0 e1 e2
  obtain ⟨t, q0, _⟩ := DataW.trod_bool Tryz.underlying4 e0
  simp only [List.cons.injEq, and_true] at q0
  subst q0
  obtain ⟨A, m, c, rfl, q1⟩ := slice_shape Tryz.underlying31 e1
  obtain ⟨vs, h0, w0, z0⟩ := ints_in Tryz.underlying31 Tryz.underlying21 (by kernel_rfl) e1
  obtain ⟨d, hd, ok⟩ := d8_of (dig_in e2)
  exact ⟨t, A, m, c, vs, d, h0, fun x hx => wf32 (w0 x hx), ok, by rw [← hd], z0, q1⟩
theorem move_val {v : Value} {d : DataW H} {p : List MemPlace} {b0 : Nat} (hv : Value.okWide Tryz.prog W .any b0 43 v) (h : DataW.Trod enc Tryz.prog W base spare held 43 v d p) :
    ∃ (t : Bool) (A : Option Addr) (n c : Nat) (xs : List Int) (d : D8), Sl (Value.int .i32) W A n xs ∧ W32 xs ∧ d.Ok ∧ v = .agg ⟨.bool t :: .slice A n c :: d8V d⟩ ∧ (A = none → c = 0) ∧ n ≤ c ∧ ∀ a, A = some a → a.spot = none ∧ ∃ cs ty fz, W.heap[a.block]? = some (.cells cs ty fz) ∧ a.off ≤ cs.size := by
  obtain ⟨cs, rfl, hsz⟩ := okWide_struct Tryz.underlying43 hv
  obtain ⟨fuel, hf⟩ := h
  obtain ⟨t, A, n, c, xs, d, h1, h2, h3, h4, h5, h6⟩ := move_in hf
  have hcs : cs = ⟨.bool t :: .slice A n c :: d8V d⟩ := Array.toList_inj.1 h4
  subst hcs
  refine ⟨t, A, n, c, xs, d, h1, h2, h3, rfl, h5, h6, fun a ha => ?_⟩
  unfold Value.okWide at hv
  rw [Tryz.underlying43] at hv
  obtain ⟨cs', hcs, _, ts, hts, _, hall⟩ := hv
  cases hcs
  have hts2 : Tryz.prog.cellTypes Tryz.prog.depth 43 = some [4, 31, 5, 5, 5, 5, 5, 5, 5, 5] := by kernel_rfl
  rw [hts2] at hts
  cases hts
  obtain ⟨u, k1, k2⟩ := hall 1 (.slice A n c) rfl
  cases k1
  subst ha
  exact slice_has Tryz.underlying31 k2
end
theorem moves_sem (a : M2) (us vs : List Int) (hu : MH a.a us) (hv : MH a.b vs) : ∃ B, FnSem Tryz.prog 4 (S_moves.args a) (mem (S_moves.R a) S_moves.n) (.bool true) B := by
  obtain ⟨v, R', n', hK, _, h⟩ := s_moves a (fun v _ _ => v = .bool true) ⟨us, vs, hu, hv⟩ ⟨fun _ _ => rfl, trivial⟩
  subst hK
  exact ⟨_, h⟩
theorem d8_vr {σ : Sg} (d : D8) : VRL σ d.c (d8V d) := .cons (tgI_vr _ _) (.cons (tgI_vr _ _) (.cons (tgI_vr _ _) (.cons (tgI_vr _ _) (.cons (tgI_vr _ _) (.cons (tgI_vr _ _) (.cons (tgI_vr _ _) (.cons (tgI_vr _ _) .nil)))))))
theorem walkM (w : World) (t1 t2 : Bool) (A B : Option Addr) (n1 c1 n2 c2 : Nat) (us vs : List Int) (e1 e2 : D8) (s1 : Sl (Value.int .i32) w A n1 us) (s2 : Sl (Value.int .i32) w B n2 vs) (w1 : W32 us) (w2 : W32 vs) (d1 : e1.Ok) (d2 : e2.Ok) (hL : LaidIn G0 w)
    (q1 : A = none → c1 = 0) (q2 : B = none → c2 = 0) (l1 : n1 ≤ c1) (l2 : n2 ≤ c2)
    (o1 : ∀ a, A = some a → a.spot = none ∧ ∃ cs ty fz, w.heap[a.block]? = some (.cells cs ty fz) ∧ a.off ≤ cs.size) (o2 : ∀ a, B = some a → a.spot = none ∧ ∃ cs ty fz, w.heap[a.block]? = some (.cells cs ty fz) ∧ a.off ≤ cs.size) :
    Calls Tryz.prog 4 #[.agg ⟨.bool t1 :: .slice A n1 c1 :: d8V e1⟩, .agg ⟨.bool t2 :: .slice B n2 c2 :: d8V e2⟩] w fun e w' => e = .returned (.bool true) ∧ Below w.heap.size w w' := by
  obtain ⟨b1, p1, r1, k1, s1, v1, u1⟩ := sli_in (f := Value.int .i32) (fun _ => rfl) (sz := 1) (by rw [s1.len, Nat.mul_one]) s1.at_ q1 l1 (by omega) o1
  obtain ⟨b2, p2, r2, k2, s2, v2, u2⟩ := sli_in (f := Value.int .i32) (fun _ => rfl) (sz := 1) (by rw [s2.len, Nat.mul_one]) s2.at_ q2 l2 (by omega) o2
  have hng : Tryz.prog.globals.size = 12 := by kernel_rfl
  have hR0 := Rel.laid (P := Tryz.prog) (G := G0) (ng := 12) hng (by kernel_rfl) (by kernel_rfl) hL
  obtain ⟨hR1, z1⟩ := Rel.addRo (i := 12 + 1) (n' := 12 + 2) hR0 glob_ro (if_neg (by omega)) (by omega) (by omega) (by omega) r2 21 k2 v2
  obtain ⟨hR2, z2⟩ := Rel.addRo (i := 12) (n' := 12 + 2) hR1 z1 (by show (if 12 = 12 + 1 then _ else _) = none; rw [if_neg (by omega)]; exact if_neg (by omega)) (by omega) (by omega) (by omega) r1 21 k1 v1
  obtain ⟨Bm, hsem⟩ := moves_sem ⟨⟨t1, ⟨b1, p1, n1, c1, r1⟩, e1⟩, ⟨t2, ⟨b2, p2, n2, c2, r2⟩, e2⟩⟩ us vs ⟨s1, w1, d1⟩ ⟨s2, w2, d2⟩
  have hmem : mem (S_moves.R ⟨⟨t1, ⟨b1, p1, n1, c1, r1⟩, e1⟩, ⟨t2, ⟨b2, p2, n2, c2, r2⟩, e2⟩⟩) S_moves.n = ⟨((putAll G0 .e).set (12 + 1) (.row r2 21 .gro)).set 12 (.row r1 21 .gro), 12 + 2⟩ := by
    have := congrArg AW.heap globs
    show (⟨((mem globR 12).heap.set (12 + 1) _).set 12 _, _⟩ : AW) = _
    rw [this]
    rfl
  rw [hmem] at hsem
  refine sem_calls envOK (fn := Tryz.f4) (by kernel_rfl) rfl rfl hsem hR2 ?_ z2
  refine .cons (.agg (.cons (.sym rfl (.flat rfl)) (.cons (u1 _ _ ?_) (d8_vr e1)))) (.cons (.agg (.cons (.sym rfl (.flat rfl)) (.cons (u2 _ _ ?_) (d8_vr e2)))) .nil)
  · exact if_pos rfl
  · show (if 12 + 1 = 12 then _ else _) = _; rw [if_neg (by omega)]; exact if_pos rfl
end Go.Proofs.YtalbjjimnhldfaaGreatDoor
