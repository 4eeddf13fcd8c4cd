/- Tables within tables: what is paid as they stand (a range over a function, with what was given so far). -/
import Derived.Test.YtfkacmmcgncooaaGreatDoorYn1
import Derived.Test.YtfkacmmcgncooaaGreatDoorYh1P
section
set_option maxRecDepth 100000
namespace Go.Proofs.YtfkacmmcgncooaaGreatDoor
open Go.RowKit Go.Shelf
attribute [local go_sem] Oper.semAt_some
def Two (W : World) (nb : Nat) (x y : Int) : Prop := ∃ (cs : Array Value) (fz : Nat × Nat) (zs : List Value), W.heap[nb]? = some (.cells cs 3 fz) /\ cs.toList = .int .i64 x :: .int .i64 y :: zs /\ ∀ o, o < cs.size -> ¬ (fz.1 <= o /\ o < fz.2)
theorem Two.size {cs : Array Value} {a b : Value} {zs : List Value} (h : cs.toList = a :: b :: zs) : cs.size = zs.length + 2 := by rw [← Array.length_toList, h]; rfl
theorem Two.c0 {W : World} {nb : Nat} {x y : Int} (h : Two W nb x y) : W.cell? ⟨nb, 0, none⟩ = some (.int .i64 x) := by
 obtain ⟨cs, fz, zs, h1, h2, -⟩ := h
 refine cell_of h1 ?_
 rw [← Array.getElem?_toList, h2]; rfl
theorem Two.c1 {W : World} {nb : Nat} {x y : Int} (h : Two W nb x y) : W.cell? ⟨nb, 1, none⟩ = some (.int .i64 y) := by
 obtain ⟨cs, fz, zs, h1, h2, -⟩ := h
 refine cell_of h1 ?_
 rw [← Array.getElem?_toList, h2]; rfl
theorem Two.f0 {W : World} {nb : Nat} {x y : Int} (h : Two W nb x y) : W.frozen? ⟨nb, 0, none⟩ = false := by
 obtain ⟨cs, fz, zs, h1, h2, h3⟩ := h
 have hs := Two.size h2
 have := h3 0 (by omega)
 simp only [World.frozen?, h1]
 simp only [Bool.and_eq_false_imp, decide_eq_true_eq, decide_eq_false_iff_not]
 exact fun h h' => this ⟨h, h'⟩
theorem Two.f1 {W : World} {nb : Nat} {x y : Int} (h : Two W nb x y) : W.frozen? ⟨nb, 1, none⟩ = false := by
 obtain ⟨cs, fz, zs, h1, h2, h3⟩ := h
 have hs := Two.size h2
 have := h3 1 (by omega)
 simp only [World.frozen?, h1]
 simp only [Bool.and_eq_false_imp, decide_eq_true_eq, decide_eq_false_iff_not]
 exact fun h h' => this ⟨h, h'⟩
theorem Two.lt {W : World} {nb : Nat} {x y : Int} (h : Two W nb x y) : nb < W.heap.size := by
 obtain ⟨cs, fz, zs, h1, -⟩ := h
 exact (Array.getElem?_eq_some_iff.1 h1).1
theorem Two.of {W W' : World} {nb : Nat} {x y : Int} (h : Two W nb x y) (e : W'.heap[nb]? = W.heap[nb]?) : Two W' nb x y := by
 obtain ⟨cs, fz, zs, h1, h2⟩ := h
 exact ⟨cs, fz, zs, e.trans h1, h2⟩
theorem Two.below {W W' : World} {nb n : Nat} {x y : Int} (h : Two W nb x y) (hb : Below n W W') (hn : nb < n) : Two W' nb x y := h.of (hb.block nb hn)
theorem Two.kept {W W' : World} {nb : Nat} {x y : Int} {row : Option Nat} (h : Two W nb x y) (hg : W.grownBy W' row) (hr : ∀ r, row = some r -> ∃ o : Obj, W.heap[r]? = some o /\ o.isCells = false) : Two W' nb x y := by
 obtain ⟨cs, fz, zs, h1, h2⟩ := h
 exact ⟨cs, fz, zs, blk_kept h1 hg hr, h2⟩
theorem Two.set0 {W : World} {nb : Nat} {x y x' : Int} (h : Two W nb x y) : Two (W.setCell ⟨nb, 0, none⟩ (.int .i64 x')) nb x' y := by
 obtain ⟨cs, fz, zs, h1, h2, h3⟩ := h
 refine ⟨_, fz, zs, Go.Joins.block_setCell h1 _, ?_, by simpa using h3⟩
 rw [Array.toList_setIfInBounds, h2]; rfl
theorem Two.set1 {W : World} {nb : Nat} {x y y' : Int} (h : Two W nb x y) : Two (W.setCell ⟨nb, 1, none⟩ (.int .i64 y')) nb x y' := by
 obtain ⟨cs, fz, zs, h1, h2, h3⟩ := h
 refine ⟨_, fz, zs, Go.Joins.block_setCell h1 _, ?_, by simpa using h3⟩
 rw [Array.toList_setIfInBounds, h2]; rfl
def GvS (n₀ B : Nat) (W : World) (k : Nat) (x y : Int) : Prop := ∃ g l c, W.heap[B]? = some (.cells #[.slice g l c] 40) /\ ((k = 0 /\ g = none /\ l = 0 /\ c = 0 /\ x = 0 /\ y = 0) ∨ (0 < k /\ ∃ nb, g = some ⟨nb, 0, none⟩ /\ l = 2 /\ 2 <= c /\ n₀ <= nb /\ nb ≠ B /\ Two W nb x y))
inductive ChL {M : Nat} (fa fb : Nat -> Int) (gv : Nat -> Int -> Int -> Int -> Int -> Prop) : List (Fin (M + 1)) -> Int -> Int -> Prop
 | nil : ChL fa fb gv [] 0 0
 | snoc {pre : List (Fin (M + 1))} {t : Fin (M + 1)} {x y u v : Int} : ChL fa fb gv pre x y -> gv t.1 (fa t.1 + x) (fb t.1 + y) u v -> ChL fa fb gv (pre ++ [t]) u v
def Sm (n : Int) : Prop := 0 <= n /\ n <= 100000000
theorem ChL.small {M : Nat} {fa fb : Nat -> Int} {gv : Nat -> Int -> Int -> Int -> Int -> Prop} (hf : ∀ i, i <= M -> (0 <= fa i /\ fa i <= 1000000) /\ 0 <= fb i /\ fb i <= 1000000) (hg : ∀ i x y u v, gv i x y u v -> 0 <= x -> 0 <= y -> (0 <= u /\ 0 <= v) /\ u + v = x + y) :
  ∀ {pre : List (Fin (M + 1))} {x y : Int}, ChL fa fb gv pre x y -> (0 <= x /\ 0 <= y) /\ x + y <= 2000000 * (pre.length : Int) := by
 intro pre x y h
 induction h with
 | nil => exact ⟨⟨Int.le_refl _, Int.le_refl _⟩, by simp⟩
 | @snoc pre t x y u v h1 h2 ih =>
  obtain ⟨⟨a1, a2⟩, a3⟩ := ih
  obtain ⟨⟨b1, b2⟩, b3, b4⟩ := hf t.1 (by omega)
  obtain ⟨⟨c1, c2⟩, c3⟩ := hg _ _ _ _ _ h2 (by omega) (by omega)
  refine ⟨⟨c1, c2⟩, ?_⟩
  rw [List.length_append, List.length_singleton]
  omega
theorem ko_of_below {W W' : World} (h : Below W.heap.size W W') : KeepsOthers W W' := ⟨h.size, fun k o hk _ => (h.block k (Array.getElem?_eq_some_iff.1 hk).1).trans hk⟩
set_option maxHeartbeats 4000000 in
theorem pays_in (F : Fence) (n : Nat) (h15 : F.fn 20) (h59 : F.fn 60) (h85 : F.fn 77) (h61 : F.fn 61) (h62 : F.fn 62) (hro : F.round = none) (hC : ∀ {f : FuncId} {args : Array Value} {w : World} {R : Ending -> World -> Prop}, Calls Tryz.prog f args w R -> ∀ k, CallsIn F k Tryz.prog f args w R) (hn : 3 <= n) (bs bl cap M : Nat) (fa fb : Nat -> Int) (gv : Nat -> Int -> Int -> Int -> Int -> Prop) (w : World) (hM : M <= 3)
  (hs : w.cell? ⟨bs, 0, none⟩ = some (.slice (some ⟨bl, 0, none⟩) (M + 1) cap)) (hf : ∀ i, i <= M -> (0 <= fa i /\ fa i <= 1000000) /\ 0 <= fb i /\ fb i <= 1000000) (hg : ∀ i x y u v, gv i x y u v -> 0 <= x -> 0 <= y -> (0 <= u /\ 0 <= v) /\ u + v = x + y)
  (hl : ∀ i, i <= M -> ∃ b c, w.cell? ⟨bl, i * 10 + 9, none⟩ = some (.slice (some ⟨b, 0, none⟩) 2 c) /\ ∀ W, Below w.heap.size w W -> Calls Tryz.prog 61 #[.slice (some ⟨b, 0, none⟩) 2 c] W fun e W' => ∃ nb c', e = .returned (.slice (some ⟨nb, 0, none⟩) 2 c') /\ 2 <= c' /\ W.heap.size <= nb /\ Two W' nb (fa i) (fb i) /\ Below W.heap.size W W')
  (hv : ∀ i, i <= M -> ∀ W nb c x y, Below w.heap.size w W -> w.heap.size <= nb -> 2 <= c -> Two W nb x y -> Sm x -> Sm y -> Calls Tryz.prog 62 #[.pointer (some ⟨bl, i * 10, none⟩), .slice (some ⟨nb, 0, none⟩) 2 c] W fun e W' => ∃ nb' c' u v, e = .returned (.slice (some ⟨nb', 0, none⟩) 2 c') /\ 2 <= c' /\ gv i x y u v /\ (nb' = nb ∨ W.heap.size <= nb') /\ Two W' nb' u v /\ Below W.heap.size W W') :
  CallsIn F n Tryz.prog 20 #[.pointer (some ⟨bs, 0, none⟩)] w fun e w' => ∃ nb c u v, e = .returned (.slice (some ⟨nb, 0, none⟩) 2 c) /\ 2 <= c /\ w.heap.size <= nb /\ Two w' nb u v /\ ChL fa fb gv (dn M (M + 1)) u v /\ Below w.heap.size w w' := by
 have hn1 : 1 <= n := by omega
 have hn2 : 1 <= n - 1 - 1 := by omega
 refine callsIn_of_wp_marks Tryz.func20 rfl h15 ?_ hro
 simp only [Tryz.ntmps20, List.size_toArray, List.length_cons, List.length_nil, Nat.reduceAdd, Nat.reduceSub, Array.replicate_succ, Array.replicate_zero, List.push_toArray, List.append_toArray, List.nil_append, List.cons_append]
 gi_wp2_with (gi_at_call 60; refine (outward_in F (n - 1) h59 hro _ _).mono ?_; rintro e w' ⟨rfl, rfl⟩)
 obtain ⟨W0, hW0⟩ : ∃ W0, ((w.alloc (Obj.cells #[Value.slice none 0 0] 40)).alloc (Obj.cells #[Value.pointer (some { block := bs, off := 0 })] 27)) = W0 := ⟨_, rfl⟩
 rw [hW0]
 have hsz : W0.heap.size = w.heap.size + 2 := by rw [← hW0]; simp
 have hB0 : Below w.heap.size w W0 := by rw [← hW0]; exact ((Below.refl _ w).alloc (Nat.le_refl _) _).alloc (by simp) _
 have g0 : W0.heap[w.heap.size]? = some (.cells #[.slice none 0 0] 40) := by
  rw [← hW0, Below.heap_alloc _ _ _ (by rw [World.size_alloc]; omega)]
  exact World.alloc_heap_new w _
 have g2 : W0.heap[w.heap.size + 1]? = some (.cells #[.pointer (some ⟨bs, 0, none⟩)] 27) := by
  have := World.alloc_heap_new (w.alloc (Obj.cells #[Value.slice none 0 0] 40)) (Obj.cells #[Value.pointer (some { block := bs, off := 0 })] 27)
  rw [World.size_alloc] at this
  rw [← hW0]; exact this
 have ltc : ∀ {a : Addr} {v : Value}, w.cell? a = some v -> a.block < w.heap.size := fun {a v} h => by
  unfold World.cell? at h
  cases ho : w.heap[a.block]? with
  | none => simp [ho] at h
  | some o => exact (Array.getElem?_eq_some_iff.1 ho).1
 refine wpIn_rangeFunc_ownF hro hn1 (gf := 77) (lb := #[.pointer (some ⟨w.heap.size + 1, 0, none⟩)]) rfl h85 (enters_of Tryz.func77 (by kernel_rfl) rfl)
  (outward_stops F (n - 1) h85 hro (by omega) (w.heap.size + 1) bs bl cap M w.heap.size (ltc hs) (by omega) W0 (by omega) (by omega) (cell_of g2 rfl) ((hB0.cell (p := ⟨bs, 0, none⟩) (ltc hs)).trans hs)) (fun h k => kpO_t h k)
  (fun W l o o' hl ho h1 h2 => ⟨belowK_b (w := w) (Nat.le_refl _) W l o o' (by omega) ho h1 h2, World.putObj_heap_other (by omega)⟩) (Below.refl _ _) (fun _ => rfl)
  (fun pre W => (W0.heap.size <= W.heap.size /\ ∃ x y, ChL fa fb gv pre x y /\ GvS w.heap.size w.heap.size W pre.length x y) /\ Below w.heap.size w W)
  (fun _ _ _ => False)
  (OwnFrom.and (Own.from (fun s A B row hs hg hr => by
   obtain ⟨h0, x, y, h1, g, l, c, h2, h3⟩ := hs
   refine ⟨Nat.le_trans h0 hg.size, x, y, h1, g, l, c, blk_kept h2 hg hr, h3.imp id fun ⟨q1, nb, q2, q3, q4, q5, q6, q7⟩ => ⟨q1, nb, q2, q3, q4, q5, q6, q7.kept hg hr⟩⟩) _) (ownFrom_below (Nat.le_refl _) (by omega)))
  (fun _ _ _ _ _ hs _ _ => hs)
  ⟨⟨Nat.le_refl _, 0, 0, .nil, none, 0, 0, g0, .inl ⟨rfl, rfl, rfl, rfl, rfl, rfl⟩⟩, hB0⟩
  (fun x => { tmps := #[.pointer (some ⟨bs, 0, none⟩), undef, .slice none 0 0, .pointer (some ⟨w.heap.size, 0, none⟩), undef, .pointer (some ⟨bl, x.1 * 10, none⟩), undef, undef, undef, .pointer (some ⟨bs, 0, none⟩), .bool false, .pointer (some ⟨bs, 0, none⟩),
   .func (.func 77) #[] #[.pointer (some ⟨w.heap.size + 1, 0, none⟩)], .int .i64 (x.1 : Int), .pointer (some ⟨bl, x.1 * 10, none⟩), undef, undef, undef, undef, undef, undef, undef, undef, undef, undef, undef, undef, undef, undef, undef, undef, undef, undef, undef, undef, undef, undef, undef, undef], defers := [] }) ?assign ?body ?done ?stop
 case assign =>
  intro l x W K hK
  gi_wp2
  exact hK
 case body =>
  rintro l pre x W ⟨⟨hs2, gx, gy, hch, g, gl, gc, hbox, hgv⟩, hB⟩ hlen
  have hx : x.1 <= M := by omega
  have blt : ∀ {a : Addr} {v : Value}, w.cell? a = some v -> W.cell? a = some v := fun {a v} h => (hB.cell (p := a) (ltc h)).trans h
  obtain ⟨bx, cx, hst, hcl⟩ := hl x.1 hx
  have hst := blt hst
  obtain ⟨⟨m1, m2⟩, m3⟩ := hch.small hf hg
  obtain ⟨⟨n1, n2⟩, n3, n4⟩ := hf x.1 hx
  gi_wp2_with (gi_at_call 61; refine (CallsIn.inRound l (hC (hcl _ hB) _)).mono ?_; rintro e W2 ⟨nb, c2, rfl, hc2, hge, h2, hB2⟩; have cbox := cell_of ((hB2.block _ (by omega)).trans hbox) (i := 0) rfl)
  gi_loopw [22] (fun i wr => ∃ k : Nat, k <= gl /\ i = .int .i64 k /\ Two wr nb (if 1 <= k then fa x.1 + gx else fa x.1) (if 2 <= k then fb x.1 + gy else fb x.1) /\ Below W.heap.size W wr)
   (fun i _ => gl - (intOf i).toNat)
  case atStart => exact ⟨0, by omega, rfl, h2, hB2⟩
  case round =>
   obtain ⟨k, hk, rfl, q1, q2⟩ := hrel
   by_cases hlt : k < gl
   ·rcases hgv with ⟨-, -, hl0, -⟩ | ⟨-, nb0, rfl, rfl, hc0, q4, q5, q6⟩
    ·omega
    have q6r := q6.below q2 q6.lt
    match k, hk, hlt with
    | 0, _, _ =>
     have a0 := q6r.c0
     have a1 := q1.c0
     have a2 := q1.f0
     gi_wp2
     exact ⟨⟨1, by omega, rfl, by have := q1.set0 (x' := fa x.1 + gx); simpa using this, q2.setCell (p := ⟨nb, 0, none⟩) hge _⟩, by simp [intOf]⟩
    | 1, _, _ =>
     have a0 := q6r.c1
     have a1 := q1.c1
     have a2 := q1.f1
     gi_wp2
     exact ⟨⟨2, by omega, rfl, by have := q1.set1 (y' := fb x.1 + gy); simpa using this, q2.setCell (p := ⟨nb, 1, none⟩) hge _⟩, by simp [intOf]⟩
   ·have hkg : k = gl := by omega
    have hgx : gl = 0 -> gx = 0 /\ gy = 0 := fun e => by
     rcases hgv with ⟨-, -, -, -, e1, e2⟩ | ⟨-, -, -, e1, -⟩
     ·exact ⟨e1, e2⟩
     ·omega
    have hgl : gl = 0 ∨ gl = 2 := by
     rcases hgv with ⟨-, -, e1, -⟩ | ⟨-, -, -, e1, -⟩
     ·exact .inl e1
     ·exact .inr e1
    have hT : Two wr nb (fa x.1 + gx) (fb x.1 + gy) := by
     rcases hgl with e | e
     ·obtain ⟨e1, e2⟩ := hgx e
      rw [hkg, e] at q1
      rw [e1, e2, Int.add_zero, Int.add_zero]
      exact q1
     ·rw [hkg, e] at q1
      exact q1
    have hBw : Below w.heap.size w wr := hB.trans (q2.mono hB.size)
    have hlen' : (pre.length : Int) <= M := by omega
    clear q1
    gi_wp2_with (gi_at_call 62; refine (CallsIn.inRound l (hC (hv x.1 hx wr nb c2 _ _ hBw (Nat.le_trans hB.size hge) hc2 hT ⟨by omega, by omega⟩ ⟨by omega, by omega⟩) _)).mono ?_; rintro e W3 ⟨nb', c', u, v, rfl, hc', hgo, hor, hT3, hB3⟩; have hB4 := q2.trans (hB3.mono q2.size); have hbox3 := (hB4.block _ (by omega)).trans hbox; have fbox := free_of (i := 0) hbox3; have cbox3 := cell_of hbox3 (i := 0) rfl)
    have z1 := hB.size
    have z2 := q2.size
    have z3 := hB4.size
    have z4 : w.heap.size <= nb' := by omega
    have z5 : nb' ≠ w.heap.size := by omega
    refine ⟨(ko_of_below hB4).trans (KeepsOthers.setCell _ _ _), ⟨(hB4.mono hB.size).setCell (p := ⟨w.heap.size, 0, none⟩) (Nat.le_refl _) _, (Below.heap_setCell _ _ _ _ (by show w.heap.size + 1 ≠ w.heap.size; omega)).trans (hB4.block _ (by omega))⟩,
     ⟨?_, u, v, .snoc hch hgo, _, _, _, Go.Joins.block_setCell hbox3 _, .inr ⟨by simp, nb', rfl, rfl, hc', z4, z5, hT3.of (Below.heap_setCell _ _ _ _ z5)⟩⟩, (hB.trans (hB4.mono hB.size)).setCell (p := ⟨w.heap.size, 0, none⟩) (Nat.le_refl _) _⟩
    have := ((Below.refl 0 W3).setCell (p := ⟨w.heap.size, 0, none⟩) (Nat.zero_le _) (.slice (some ⟨nb', 0, none⟩) 2 c')).size
    omega
 case done =>
  rintro D ys W hD rfl ⟨⟨-, gx, gy, hch, g, gl, gc, hbox, hgv⟩, hB⟩ hK
  rw [dn_length] at hgv
  rcases hgv with ⟨q1, -⟩ | ⟨-, nb, rfl, rfl, q4, q5, q6, q7⟩
  ·omega
  have c2 := cell_of hbox (i := 0) rfl
  gi_wp2
  refine ⟨by simp, .inl ⟨_, _, rfl, run_takeDeferred hK, ?_⟩⟩
  refine ⟨_, results_tmp rfl _ _ _, nb, gc, gx, gy, rfl, q4, q5, q7.of (World.putObj_heap_other ?_), hch, hB.trans (belowK_b (w := w) (Nat.le_refl _) W D _ _ (by omega) hK rfl rfl)⟩
  rintro rfl
  obtain ⟨cs, fz, zs, h1, -⟩ := q7
  rw [h1] at hK
  cases hK
 case stop =>
  rintro D c pre W _ _ h _
  exact h.elim
end Go.Proofs.YtfkacmmcgncooaaGreatDoor
end

/- Tables within tables: what is paid as they stand, for each depth. -/
section
set_option maxRecDepth 100000
namespace Go.Proofs.YtfkacmmcgncooaaGreatDoor
open Go.Ev
open Go.RowKit (Below)
set_option linter.unusedSectionVars false
variable [Go.Ev.Frozen Tryz.prog]
noncomputable section
def pyFa (a : PyA) (i : Nat) : Int := (pyI i a).x
def pyFb (a : PyA) (i : Nat) : Int := (pyI i a).y
def pyGv (a : PyA) (i : Nat) (x y u v : Int) : Prop := givR (pyI i a).g (pyI i a).p x y u v
def pyOK (d : Nat) (a : PyA) : Prop := ∀ i, i < d -> isGx (pyI i a).g (pyI i a).p /\ smQ (pyI i a).x /\ smQ (pyI i a).y
structure PayD (M : Nat) (a : PyA) (b : XyB) : Prop where
 h : ChL (M := M) (pyFa a) (pyFb a) (pyGv a) (dn M (M + 1)) b.x b.y
def gvOK (v : GvA) : Prop := isGx v.g v.p /\ smQ v.x /\ smQ v.y
def allOK (d : Nat) (a : PyA) : Prop := nth4 d (gvOK a.a) (gvOK a.a /\ gvOK a.b) (gvOK a.a /\ gvOK a.b /\ gvOK a.c) (gvOK a.a /\ gvOK a.b /\ gvOK a.c /\ gvOK a.e)
def S_pays (M : Nat) : SpecD where
 f := 20
 α := PyA
 args _ := [.pointer (some ⟨12, 0, none⟩)]
 R a := pyR (M + 1) a
 n := popN (M + 1)
 pre a := allOK (M + 1) a
 outs := [⟨XyB, fun a b => PayD M a b, fun _ _ => sc (popN (M + 1)) 2, fun _ b => [(popN (M + 1), .p (.row [tgI .i64 b.x, tgI .i64 b.y] 3 .gro))], fun _ _ => popN (M + 1) + 1, fun _ _ => []⟩]
 pick _ _ := 0
 find _ _ := none
end
theorem allOK1 {a : PyA} (h : allOK 1 a) : pyOK 1 a := fun i hi => by
 match i, hi with
 | 0, _ => exact h
theorem allOK2 {a : PyA} (h : allOK 2 a) : pyOK 2 a := fun i hi => by
 match i, hi with
 | 0, _ => exact h.1
 | 1, _ => exact h.2
theorem allOK3 {a : PyA} (h : allOK 3 a) : pyOK 3 a := fun i hi => by
 match i, hi with
 | 0, _ => exact h.1
 | 1, _ => exact h.2.1
 | 2, _ => exact h.2.2
theorem allOK4 {a : PyA} (h : allOK 4 a) : pyOK 4 a := fun i hi => by
 match i, hi with
 | 0, _ => exact h.1
 | 1, _ => exact h.2.1
 | 2, _ => exact h.2.2.1
 | 3, _ => exact h.2.2.2
theorem sem_callsG {f : FuncId} {fn : Func} {c : Code} (hf : Tryz.prog.funcs[f]? = some fn) (hb : fn.body = some c) {abs args : List Value} {A B : AW} {v : Value} (h : FnSem Tryz.prog f abs A v B) {σ : Sg} {w : World} (hR : Rel Tryz.prog σ A w) (ha : VRL σ abs args)
  (hro : ∀ j o, A.heap.get j = some o -> mayW o = false) : Calls Tryz.prog f ⟨args⟩ w fun e w' => ∃ v' σ', e = .returned v' /\ VR σ' v v' /\ Rel Tryz.prog σ' B w' /\ Step σ A w σ' B w' /\ Below w.heap.size w w' := by
 have hent := entered (P := Tryz.prog) (envOK.name f fn hf) hf hb ⟨args⟩ w
 have hnw : ∀ b, ¬ Wr σ A b := by
  rintro b ⟨i, d, o, _, hg, hm⟩
  rw [hro i o hg] at hm; cases hm
 rcases h σ w args hR ha with ⟨v', w', e, _⟩ | ⟨g, as_, e, hC⟩
 ·rw [hent] at e; cases e
 ·rw [hent] at e; cases e
  refine Calls.mono hC fun en w' he => ?_
  cases en with
  | returned v' =>
   obtain ⟨σ', hvr, hR', hS⟩ := he
   exact ⟨v', σ', rfl, hvr, hR', hS, hS.os, hS.tape, hS.output, hS.size, fun k hk => hS.block k hk (hnw k)⟩
  | _ => exact he.elim
theorem ro_mem {R : List (Nat × PO)} {n : Nat} (h : lall (fun p => bnot (mayW p.2.ao)) R = true) : ∀ j o, (mem R n).heap.get j = some o -> mayW o = false := fun j o hj => by
 obtain ⟨y, hy, rfl⟩ := tput_get (g := PO.ao) (l := R) hj
 have := lall_mem h _ hy
 simpa [bnot_eq] using this
theorem two_of {σ : Sg} {A : AW} {w : World} (hR : Rel Tryz.prog σ A w) {i nb d : Nat} {x y : Int} {m : Md} (hm : m.writes = true) (hs : σ i = some (nb, d)) (hg : A.heap.get i = some (.row [tgI .i64 x, tgI .i64 y] 3 m)) : Two w nb x y := by
 obtain ⟨o, h1, h2⟩ := hR.obj i nb d _ hs hg rfl
 cases o with
 | cells cs e fz =>
  obtain ⟨q1, q2⟩ := h2
  rcases q1 with q1 | q1
  ·rw [hm] at q1; cases q1
  subst q1
  obtain ⟨us, zs, t1, t2, -⟩ := q2.cells
  cases t2 with
  | cons a1 t2 =>
   cases t2 with
   | cons a2 t2 =>
    cases t2
    obtain rfl := sym_int a1
    obtain rfl := sym_int a2
    exact ⟨cs, fz, zs, h1, t1, q2.free hm⟩
 | _ => exact h2.elim
theorem clone_run {σ : Sg} {A : AW} {W : World} (hR : Rel Tryz.prog σ A W) {b c : Nat} {x y : Int} {cs : Array Value} {ty : TypeId} {fz : Nat × Nat} {zs : List Value} (hb : W.heap[b]? = some (.cells cs ty fz)) (hc : cs.toList = .int .i64 x :: .int .i64 y :: zs) (h2 : 2 <= c) :
  Calls Tryz.prog 61 #[.slice (some ⟨b, 0, none⟩) 2 c] W fun e W' => ∃ nb c', e = .returned (.slice (some ⟨nb, 0, none⟩) 2 c') /\ 2 <= c' /\ W.heap.size <= nb /\ Two W' nb x y /\ Below W.heap.size W W' := by
 have hng : Tryz.prog.globals.size = 12 := by kernel_rfl
 obtain ⟨c0, hc0⟩ : ∃ c0, c0 = tgI .i64 x :: tgI .i64 y :: zs.map (fun _ => unk) := ⟨_, rfl⟩
 have hvr : ∀ σ, VRL σ c0 cs.toList := fun σ => by
  rw [hc0, hc]
  refine .cons (tgI_vr _ _) (.cons (tgI_vr _ _) ?_)
  clear hc hc0
  induction zs with
  | nil => exact .nil
  | cons z zs ih => exact .cons (.any trivial) ih
 have hflat : FlatL c0 := fun v hv => by
  rw [hc0] at hv
  rcases List.mem_cons.1 hv with e | hv
  ·subst e; rfl
  rcases List.mem_cons.1 hv with e | hv
  ·subst e; rfl
  obtain ⟨z, -, rfl⟩ := List.mem_map.1 hv
  rfl
 obtain ⟨v, R', n', ⟨q, hq, rfl, rfl, rfl⟩, -, hsem⟩ := s_cl2 ⟨false, 0, 2, c, c0⟩ (fun v R' n' => ∃ q : XyB, lwin c0 0 2 = [tgI .i64 q.x, tgI .i64 q.y] /\ v = sc (12 + 1) 2 /\ R' = clO q /\ n' = 12 + 2)
  ⟨⟨h2, by show 0 + 2 <= c0.length; rw [hc0]; simp, hflat⟩, x, y, by show lwin c0 0 2 = _; rw [hc0]; rfl⟩ ⟨fun q hq => ⟨q, hq, rfl, rfl, rfl⟩, trivial⟩
 have hq : [tgI .i64 x, tgI .i64 y] = [tgI .i64 q.x, tgI .i64 q.y] := by rw [← hq, hc0]; rfl
 have e5 : x = q.x := by injection hq with h1 h2; injection h1 with _ h1; injection h1
 have e6 : y = q.y := by injection hq with h1 h2; injection h2 with h2 _; injection h2 with _ h2; injection h2
 have hbare := hR.bare
 rw [hng] at hbare
 obtain ⟨hR1, hro⟩ := Rel.addRo (i := 12) (n' := 12 + 1) hbare (fun j o h => by cases h) (if_neg (by omega)) (by omega) (by omega) (by omega) c0 3 (some b) (fun b' e => by cases e; exact ⟨cs, ty, fz, hb, hvr⟩)
 refine Calls.mono (sem_callsG (fn := Tryz.f61) (by kernel_rfl) rfl hsem hR1 (.cons (.mn (d := 0) rfl (if_pos rfl)) .nil) hro) ?_
 rintro e W' ⟨v', σ', rfl, hv', hR', hS, hB⟩
 obtain ⟨nb, d, hs, rfl⟩ := hv'.slice_inv
 have hg : (mem (clO q) (12 + 2)).heap.get (12 + 1) = some (.row [tgI .i64 q.x, tgI .i64 q.y] 3 (.grown 2)) := by kernel_rfl
 refine ⟨nb, 2 + d, rfl, by omega, ?_, by rw [e5, e6]; exact two_of hR' rfl hs hg, hB⟩
 refine Nat.le_of_not_lt fun hlt => ?_
 obtain ⟨i, d', o, k1, k2, k3⟩ := hS.new (12 + 1) nb d _ (Nat.le_refl _) hs hg rfl hlt
 rw [hro i o k2] at k3
 cases k3
end Go.Proofs.YtfkacmmcgncooaaGreatDoor
end
