/- The law of nil rules (what is to be shown). -/
import Derived.Test.YthokbbichifohaaGreatDoorYnum
import Derived.Test.YthokbbichifohaaGreatDoorKnownN
import Derived.Test.YthokbbichifohaaGreatDoorEv11
section
set_option maxRecDepth 100000
namespace Go.Proofs.YthokbbichifohaaGreatDoor
open Go.Ev
-- keep PH PW Go.Ev.Sli Go.Ev.HV cells0 cells1 cells2 cells4 cells5 cells6 cells8 cells9 cells10
structure CN where
  m : Int
  p : PA
set_option linter.unusedSectionVars false
variable [Go.Ev.Frozen Tryz.prog]
noncomputable section
def S_nil : SpecD where
  f := 3
  α := CN
  args a := [tgI .i64 a.m, a.p.v 12]
  R a := a.p.R 12 81 ++ [(0, .f cells0 307 .ro), (1, .f cells1 313 .ro), (2, .f cells2 336 .ro), (4, .f cells4 307 .ro), (5, .f cells5 348 .ro), (6, .f cells6 362 .ro), (8, .f cells8 366 .ro), (9, .f cells9 369 .ro), (10, .f cells10 370 .ro)]
  n := 12 + 3
  pre a := ∃ x, PH a.p x
  outs := [⟨Unit, fun _ _ => True, fun _ _ => .bool true, fun _ _ => [], fun _ _ => 12 + 3, fun _ _ => []⟩]
  pick _ _ := 0
  find _ _ := none
def G_nil (a : CN) : Prop := fnW Tryz.prog E0 (cwX (fun c => cwD Tryz.prog S_cut (cwHk hkPar (cwHk hkTold c))) 4) [] S_nil.f (S_nil.args a) (mem (S_nil.R a) S_nil.n) (endD Tryz.prog S_nil a)
end
end Go.Proofs.YthokbbichifohaaGreatDoor
end

/- What is told of nil rules is so. -/
section
set_option maxRecDepth 100000
namespace Go.Proofs.YthokbbichifohaaGreatDoor
open Go.Ev
set_option linter.unusedSectionVars false
variable [Go.Ev.Frozen Tryz.prog]
theorem vc_nil (a : CN) : G_nil a = ((True ∧ (∃ (x0 : PX), PH a.2 x0) ∧ True) ∧ ((((a.2.1.1 = a.2.1.1 ∧ a.2.1.2 = a.2.1.2 ∧ a.2.1.3 = a.2.1.3 ∧ a.2.1.4 = a.2.1.4) ∧ (a.2.2.1 = a.2.2.1 ∧ a.2.2.2 = a.2.2.2 ∧ a.2.2.3 =
a.2.2.3 ∧ a.2.2.4 = a.2.2.4) ∧ (a.2.3.1 = a.2.3.1 ∧ a.2.3.2 = a.2.3.2 ∧ a.2.3.3 = a.2.3.3 ∧ a.2.3.4 = a.2.3.4) ∧ a.2.4 = a.2.4 ∧ a.2.5 = a.2.5 ∧ a.2.6 = a.2.6 ∧ a.2.7 = a.2.7 ∧
a.2.8 = a.2.8 ∧ True) ∧ True) ∧ (True ∧ FlatL a.2.1.5 ∧ a.2.1.5 = a.2.1.5) ∧ (True ∧ FlatL a.2.2.5 ∧ a.2.2.5 = a.2.2.5) ∧ (True ∧ FlatL a.2.3.5 ∧ a.2.3.5 = a.2.3.5) ∧ True) ∧ (∀
(x1 : Unit), True → (True ∧ (∃ (x2 : PX), PH a.2 x2) ∧ True) ∧ ((((a.2.1.1 = a.2.1.1 ∧ a.2.1.2 = a.2.1.2 ∧ a.2.1.3 = a.2.1.3 ∧ a.2.1.4 = a.2.1.4) ∧ (a.2.2.1 = a.2.2.1 ∧ a.2.2.2 =
a.2.2.2 ∧ a.2.2.3 = a.2.2.3 ∧ a.2.2.4 = a.2.2.4) ∧ (a.2.3.1 = a.2.3.1 ∧ a.2.3.2 = a.2.3.2 ∧ a.2.3.3 = a.2.3.3 ∧ a.2.3.4 = a.2.3.4) ∧ a.2.4 = a.2.4 ∧ a.2.5 = a.2.5 ∧ a.2.6 = a.2.6 ∧
a.2.7 = a.2.7 ∧ a.2.8 = a.2.8 ∧ True) ∧ True) ∧ (True ∧ FlatL a.2.1.5 ∧ a.2.1.5 = a.2.1.5) ∧ (True ∧ FlatL a.2.2.5 ∧ a.2.2.5 = a.2.2.5) ∧ (True ∧ FlatL a.2.3.5 ∧ a.2.3.5 = a.2.3.5)
∧ True) ∧ (∀ (x3 : Unit), True → ((1 : Int) ≤ a.1 → (a.1 ≤ (65536 : Int) → ∃ (x4 : Unit), True ∧ Bool.true = Bool.true ∧ True) ∧ (¬a.1 ≤ (65536 : Int) → (a.1 < (1 : Int) → ∃ (x5 :
Unit), True ∧ Bool.true = Bool.true ∧ True) ∧ (¬a.1 < (1 : Int) → ((65536 : Int) < a.1 → ∃ (x6 : Unit), True ∧ Bool.true = Bool.true ∧ True) ∧ (¬(65536 : Int) < a.1 → False)))) ∧
(¬(1 : Int) ≤ a.1 → (a.1 < (1 : Int) → ∃ (x7 : Unit), True ∧ Bool.true = Bool.true ∧ True) ∧ (¬a.1 < (1 : Int) → ((65536 : Int) < a.1 → ∃ (x8 : Unit), True ∧ Bool.true = Bool.true
∧ True) ∧ (¬(65536 : Int) < a.1 → False)))) ∧ True) ∧ True) := by kernel_rfl
theorem g_nil (a : CN) (x : PX) (hp : PH a.p x) : G_nil a := by
  have f1 := hp.p1.flat
  have f2 := hp.p2.flat
  have f3 := hp.p3.flat
  have K : ∃ _ : Unit, True ∧ true = true ∧ True := ⟨(), trivial, rfl, trivial⟩
  rw [vc_nil]
  refine ⟨⟨trivial, ⟨x, hp⟩, trivial⟩, by (repeat' first | with_reducible apply And.intro | exact trivial | exact rfl | with_reducible assumption), fun _ _ => ⟨⟨trivial, ⟨x, hp⟩, trivial⟩, by (repeat' first | with_reducible apply And.intro | exact trivial | exact rfl | with_reducible assumption), fun _ _ => ⟨fun h1 => ⟨fun _ => K, fun h2 => ⟨fun _ => K, fun _ => ⟨fun _ => K, fun h3 => h3 (by omega)⟩⟩⟩, fun h1 => ⟨fun _ => K, fun h2 => absurd (by omega) h2⟩⟩, trivial⟩, trivial⟩
theorem nil_sem (a : CN) (x : PX) (hp : PH a.p x) : ∃ B, FnSem Tryz.prog 3 (S_nil.args a) (mem (S_nil.R a) S_nil.n) (.bool true) B := by
  obtain ⟨v, R', n', hK, _, h⟩ := specD_at (an := []) envOK (cwX_ok (fun _ h => cwD_ok s_cut (cwHk_ok hkPar_ok (cwHk_ok hkTold_ok h))) 4) (fun _ => g_nil a x hp) (fun v _ _ => v = .bool true) ⟨x, hp⟩ ⟨fun _ _ => rfl, trivial⟩
  subst hK
  exact ⟨_, h⟩
end Go.Proofs.YthokbbichifohaaGreatDoor
end

/- The evaluator with variables: from a world to what is told of it; a call. -/
section
open Go.RowKit (Below)
set_option linter.unusedSectionVars false
namespace Go.Ev
variable {P : Program} [Frozen P]
def wnd : Nat → Nat → List Value → List Value
  | _, _, [] => []
  | 0, 0, _ :: l => .iface UNK .nilIface :: wnd 0 0 l
  | 0, n + 1, v :: l => v :: wnd 0 n l
  | o + 1, n, _ :: l => .iface UNK .nilIface :: wnd o n l
theorem wnd_length : ∀ (l : List Value) (o n : Nat), (wnd o n l).length = l.length := by
  intro l
  induction l with
  | nil => intro o n; cases o <;> cases n <;> rfl
  | cons v l ih => intro o n; cases o <;> cases n <;> simp [wnd, ih]
theorem wnd_get : ∀ (l : List Value) (o n i : Nat), i < n → (wnd o n l)[o + i]? = l[o + i]? := by
  intro l
  induction l with
  | nil => intro o n i _; cases o <;> cases n <;> rfl
  | cons v l ih =>
    intro o n i hi
    cases o with
    | zero => cases n with
      | zero => omega
      | succ n => cases i with
        | zero => rfl
        | succ i =>
          have := ih 0 n i (by omega)
          rw [Nat.zero_add] at this ⊢
          show (wnd 0 n l)[i]? = l[i]?
          exact this
    | succ o =>
      have := ih o n i hi
      rw [show o + 1 + i = (o + i) + 1 by omega]
      cases n <;> exact this
theorem wnd_vr {σ : Sg} : ∀ (l : List Value) (o n : Nat), (∀ i v, i < n → l[o + i]? = some v → flat v = true) → VRL σ (wnd o n l) l := by
  intro l
  induction l with
  | nil => intro o n _; cases o <;> cases n <;> exact .nil
  | cons v l ih =>
    intro o n h
    cases o with
    | zero => cases n with
      | zero => exact .cons (.any trivial) (ih 0 0 fun i _ hi => by omega)
      | succ n =>
        refine .cons (.flat (h 0 v (by omega) rfl)) (ih 0 n fun i u hi hu => h (i + 1) u (by omega) ?_)
        rw [Nat.zero_add] at hu ⊢
        exact hu
    | succ o =>
      have : VRL σ (wnd o n l) l := ih o n fun i u hi hu => h i u hi (by rw [show o + 1 + i = (o + i) + 1 by omega]; exact hu)
      cases n <;> exact .cons (.any trivial) this
theorem wnd_flat : ∀ (l : List Value) (o n : Nat), (∀ i v, i < n → l[o + i]? = some v → flat v = true) → FlatL (wnd o n l) := by
  intro l
  induction l with
  | nil => intro o n _ v hv; cases o <;> cases n <;> cases hv
  | cons u l ih =>
    intro o n h v hv
    have fu : ∀ x : Value, flat x = true → ftag x = true := fun x hx => by
      have : usym x = x := by cases x <;> first | rfl | (cases hx)
      simp [ftag, this, hx]
    cases o with
    | zero => cases n with
      | zero =>
        rcases List.mem_cons.1 hv with e | hv
        · subst e; rfl
        · exact ih 0 0 (fun i _ hi => by omega) v hv
      | succ n =>
        rcases List.mem_cons.1 hv with e | hv
        · subst e; exact fu _ (h 0 _ (by omega) rfl)
        · exact ih 0 n (fun i u hi hu => h (i + 1) u (by omega) (by rw [Nat.zero_add] at hu ⊢; exact hu)) v hv
    | succ o =>
      have hh : ∀ i u, i < n → l[o + i]? = some u → flat u = true := fun i u hi hu => h i u hi (by rw [show o + 1 + i = (o + i) + 1 by omega]; exact hu)
      have hv : v ∈ Value.iface UNK .nilIface :: wnd o n l := by cases n <;> exact hv
      rcases List.mem_cons.1 hv with e | hv
      · subst e; rfl
      · exact ih o n hh v hv
theorem Rel.addRo {σ : Sg} {H : T AO} {n n' i : Nat} {w : World} (hR : Rel P σ ⟨H, n⟩ w) (hro : ∀ j o, H.get j = some o → mayW o = false) (hs : σ i = none) (hn : n ≤ n') (hin : i < n') (hg : P.globals.size ≤ i) (c : List Value) (e : TypeId) (blk : Option Nat)
    (hb : ∀ b, blk = some b → ∃ cs ty fz, w.heap[b]? = some (.cells cs ty fz) ∧ ∀ σ, VRL σ c cs.toList) :
    Rel P (fun j => if j = i then blk.map (fun b => (b, 0)) else σ j) ⟨H.set i (.row c e .gro), n'⟩ w ∧ ∀ j o, (H.set i (.row c e .gro)).get j = some o → mayW o = false := by
  have hlt : ∀ j p, σ j = some p → j ≠ i := fun j p hj e => by rw [e, hs] at hj; cases hj
  have hro' : ∀ j o, (H.set i (.row c e .gro)).get j = some o → mayW o = false := fun j o hj => by
    rw [get_set] at hj
    split at hj
    · cases hj; rfl
    · exact hro j o hj
  refine ⟨⟨⟨?_, ?_, ?_, ?_, ?_⟩, fun b x e => ⟨(hR.fro b x e).1, fun ⟨j, _, o, _, hg, hm⟩ => by rw [hro' j o hg] at hm; cases hm⟩⟩, hro'⟩
  · intro j b d o hj hgj hl
    have hgj : (H.set i (.row c e .gro)).get j = some o := hgj
    rw [get_set] at hgj
    by_cases h : j = i
    · rw [if_pos h] at hgj
      cases hgj
      have hj : (if j = i then blk.map (fun b => (b, 0)) else σ j) = some (b, d) := hj
      rw [if_pos h] at hj
      cases hk : blk with
      | none => rw [hk] at hj; cases hj
      | some b' =>
        rw [hk] at hj
        cases hj
        obtain ⟨cs, ty, fz, h1, h2⟩ := hb _ hk
        refine ⟨_, h1, .inl rfl, ⟨⟨cs.toList, [], by simp, h2 _, fun _ => rfl⟩, fun _ => rfl, fun _ h => (by cases h), fun h => (by cases h)⟩⟩
    · rw [if_neg h] at hgj
      have hj : (if j = i then blk.map (fun b => (b, 0)) else σ j) = some (b, d) := hj
      rw [if_neg h] at hj
      obtain ⟨x, h1, h2⟩ := hR.obj j b d o hj hgj hl
      refine ⟨x, h1, h2.sub fun k p hk => ?_⟩
      show (if k = i then blk.map (fun b => (b, 0)) else σ k) = some p
      rw [if_neg (hlt k p hk)]; exact hk
  · intro j k b d d' o o' _ _ hgj hgk _ _ hw
    rw [hro' j o hgj, hro' k o' hgk] at hw; cases hw
  · intro j hj
    have hj : n' ≤ j := hj
    show (if j = i then blk.map (fun b => (b, 0)) else σ j) = none
    rw [if_neg (by omega)]; exact hR.lim j (Nat.le_trans hn hj)
  · intro g hgg
    show (if g = i then blk.map (fun b => (b, 0)) else σ g) = _
    rw [if_neg (by omega)]; exact hR.glob g hgg
  · intro j hj
    have hj : n' ≤ j := hj
    show (H.set i (.row c e .gro)).get j = none
    rw [get_set, if_neg (by omega)]; exact hR.top j (Nat.le_trans hn hj)
theorem sem_calls {E : Env} (hE : EnvOK P E) {f : FuncId} {fn : Func} {c : Code} (hf : P.funcs[f]? = some fn) (hb : fn.body = some c) {abs args : List Value} {A B : AW} {v : Value} (hv : flat3 v = true) (h : FnSem P f abs A v B) {σ : Sg} {w : World} (hR : Rel P σ A w) (ha : VRL σ abs args)
    (hro : ∀ j o, A.heap.get j = some o → mayW o = false) : Calls P f ⟨args⟩ w fun e w' => e = .returned v ∧ Below w.heap.size w w' := by
  have hent := entered (P := P) (hE.name f fn hf) hf hb ⟨args⟩ w
  have hnw : ∀ b, ¬ Wr σ A b := by
    rintro b ⟨i, d, o, _, hg, hm⟩
    rw [hro i o hg] at hm; cases hm
  rcases h σ w args hR ha with ⟨v', w', e, _⟩ | ⟨g, as_, e, hC⟩
  · rw [hent] at e; cases e
  · rw [hent] at e; cases e
    refine Calls.mono hC fun en w' he => ?_
    cases en with
    | returned v' =>
      obtain ⟨σ', hvr, hR', hS⟩ := he
      obtain rfl := hvr.of_flat3 hv
      exact ⟨rfl, hS.os, hS.tape, hS.output, hS.size, fun k hk => hS.block k hk (hnw k)⟩
    | _ => exact he.elim
end Go.Ev
end
