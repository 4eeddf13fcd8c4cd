/- The evaluator with variables: what is told of a function, in a memory of its own; a call of it. -/
import Derived.Test.YtfkacmmcgncooaaGreatDoorEv10
section
set_option linter.unusedSectionVars false
namespace Go.Ev
variable {P : Program} {σ : Sg} {w : World} [Frozen P]
structure Spec where
  f : FuncId
  α : Type
  args : α → List Value
  R : α → List (Nat × PO)
  n : Nat
  pre : α → Prop
  post : α → (Value → List (Nat × PO) → Nat → Prop) → Prop
def FlatR (R : List (Nat × PO)) : Prop := ∀ i c e m, (i, PO.f c e m) ∈ R → FlatL c
def SpecAt (P : Program) [Frozen P] (S : Spec) (a : S.α) : Prop := ∀ K, S.pre a → S.post a K → ∃ v R' n', K v R' n' ∧ FlatR R' ∧ FnSem P S.f (S.args a) (mem (S.R a) S.n) v (mem R' n')
def SpecOK (P : Program) [Frozen P] (S : Spec) : Prop := ∀ a, SpecAt P S a
noncomputable section
def rnS (r : Nat → Option Nat) (v : Value) : Option Value := match v with
  | .pointer (some ⟨b, o, none⟩) => ob (r b) fun b' => some (.pointer (some ⟨b', o, none⟩))
  | .slice (some ⟨b, o, none⟩) l c => ob (r b) fun b' => some (.slice (some ⟨b', o, none⟩) l c)
  | .map (some b) => ob (r b) fun b' => some (.map (some b'))
  | v => bt (flat v) (some v)
def rnMN (r : Nat → Option Nat) (x : Value) : Option Value := match x with
  | .agg ⟨[.bool nb, .slice (some ⟨i, o, none⟩) l c]⟩ => Option.rec (bt nb (some (.slice none 0 0))) (fun j => some (.iface MN (.agg ⟨[.bool nb, .slice (some ⟨j, o, none⟩) l c]⟩))) (r i)
  | _ => none
def rnV (r : Nat → Option Nat) (n : Nat) : Value → Option Value := Nat.rec (motive := fun _ => Value → Option Value) (fun _ => none) (fun _ ih v => match v with
  | .func fn f c => ob (omap ih f.toList) fun f' => ob (omap ih c.toList) fun c' => some (.func fn ⟨f'⟩ ⟨c'⟩)
  | .iface t x => Bool.rec (Bool.rec (ob (ih x) fun y => some (.iface t y)) (some (.iface t x)) (isX t)) (rnMN r x) (Nat.beq t MN)
  | .agg c => ob (omap ih c.toList) fun c' => some (.agg ⟨c'⟩)
  | .tuple c => ob (omap ih c.toList) fun c' => some (.tuple ⟨c'⟩)
  | v => rnS r v) n
def rnE (r : Nat → Option Nat) (l : List MapEntry) : Option (List MapEntry) := omap (fun e => ob (rnV r 6 e.val) fun v => some { e with val := v }) l
def rnP (r : Nat → Option Nat) (q : PO) : Option PO := match q with
  | .p (.row c e m) => ob (omap (rnV r 6) c) fun c' => some (.p (.row c' e m))
  | .p (.map es k) => ob (rnE r es) fun es' => some (.p (.map es' k))
  | .p .dead => some (.p .dead)
  | .f c e m => some (.f c e m)
def rnR (r : Nat → Option Nat) (l : List (Nat × PO)) : Option (List (Nat × PO)) := List.rec (some []) (fun p _ ih => Option.rec ih (fun j => ob (rnP r p.2) fun q => ob ih fun U => some ((j, q) :: U)) (r p.1)) l
def putR (l : List (Nat × PO)) (H : T AO) : T AO := List.rec H (fun p _ ih => T.set ih p.1 p.2.ao) l
def keyR (i : Nat) (l : List (Nat × PO)) : Bool := List.rec false (fun p _ ih => Bool.rec ih true (Nat.beq i p.1)) l
def onceR (l : List (Nat × PO)) : Bool := List.rec true (fun p l ih => Bool.rec false ih (bnot (keyR p.1 l))) l
def mayWP (q : PO) : Bool := match q with
  | .p (.row _ _ m) => m.writes
  | .p (.map _ _) => true
  | .p .dead => false
  | .f _ _ m => m.writes
def keepR (R R' : List (Nat × PO)) : Bool := List.rec true (fun p _ ih => Bool.rec false ih (Bool.rec true (keyR p.1 R') (mayWP p.2))) R
def rho (ng n base : Nat) (l : List (Nat × Nat)) (i : Nat) : Option Nat := Bool.rec (some (Nat.add base (Nat.sub i n))) (rnm ng l i) (Nat.blt i n)
def backW (ng n base : Nat) (l : List (Nat × Nat)) (R : List (Nat × PO)) (H : T AO) (K : Value → AW → Prop) (v : Value) (R' : List (Nat × PO)) (n' : Nat) : Prop :=
  cpo (rnV (rho ng n base l) 6 v) fun u => cpo (rnR (rho ng n base l) R') fun U => cpb (onceR R' && (keepR R R' && lall (fun p => Nat.blt p.1 (Nat.add base (Nat.sub n' n))) U)) (K u ⟨putR U H, Nat.add base (Nat.sub n' n)⟩)
def callW (P : Program) [Frozen P] (S : Spec) (J : S.α → Prop) (args : List Value) (A : AW) (K : Value → AW → Prop) : Prop := ∃ (a : S.α) (l : List (Nat × Nat)), J a ∧ S.pre a ∧ cpb (okMS P.globals.size P.globals.size l ⟨[], S.R a, S.n⟩)
  (wvL (wv (rnm P.globals.size l) 5) (S.args a) args ∧ rowsW (rnm P.globals.size l) A.heap (S.R a) ∧ S.post a (backW P.globals.size S.n A.next l (S.R a) A.heap K))
def seenW (P : Program) [Frozen P] (n0 : Nat) (l : List (Nat × Nat)) (v : Value) (A : AW) (v0 : Value) (R' : List (Nat × PO)) (n' : Nat) : Prop := cpb (okMS P.globals.size n0 l ⟨[], R', n'⟩) (wv (rnm n0 l) 5 v0 v ∧ rowsW (rnm n0 l) A.heap R')
end
theorem flatR_rows {r : Nat → Option Nat} {H : T AO} {R : List (Nat × PO)} (h : rowsW r H R) : FlatR R := fun i c e m hm => by
  cases hj : r i with
  | none => exact (rowsW_none h i _ hm hj).1
  | some j =>
  obtain ⟨o', _, h3⟩ := rowsW_mem h i _ hm j hj
  cases o' with
  | row c' e' m' =>
    have h3 : cpb (Nat.beq e e') (wmd m m' c' ∧ FlatL c ∧ c = c') := h3
    exact (cpb_iff.1 h3).2.2.1
  | _ => exact h3.elim
theorem fnSem_seen {f : FuncId} {args : List Value} {A B : AW} {v v0 : Value} {R' : List (Nat × PO)} {n' n0 : Nat} {l : List (Nat × Nat)} (hn : A.next = n0) (h : FnSem P f args A v B) (hs : seenW P n0 l v B v0 R' n') : FnSem P f args A v0 (mem R' n') := by
  unfold seenW at hs
  obtain ⟨hok, hv, hr⟩ := cpb_iff.1 hs
  intro σ w args' hR ha
  have good : ∀ v' w', Good P σ A w v B v' w' → Good P σ A w v0 (mem R' n') v' w' := by
    rintro v' w' ⟨σ', h1, h2, h3⟩
    exact ⟨_, wv_vr (ren_sgOf _) 5 _ _ _ hv h1, rel_weak hok hr h2, step_weak hn hok hr h3⟩
  rcases h σ w args' hR ha with ⟨v', w', e, hg⟩ | ⟨g, as_, e, hg⟩
  · exact .inl ⟨v', w', e, good v' w' hg⟩
  · refine .inr ⟨g, as_, e, Calls.mono hg fun en w' he => ?_⟩
    cases en with
    | returned v' => exact good v' w' he
    | _ => exact he.elim
theorem rnS_vr {r : Nat → Option Nat} {σs σ' : Sg} (hr : ∀ i j p, r i = some j → σs i = some p → σ' j = some p) {v u v' : Value} (h : rnS r v = some u) (k : VR σs v v') : VR σ' u v' := by
  unfold rnS at h
  split at h
  · rw [ob_some] at h
    obtain ⟨j, hj, h⟩ := h; cases h
    obtain ⟨b, d, e, rfl⟩ := k.ptr_inv
    exact .ptr (hr _ _ _ hj e)
  · rw [ob_some] at h
    obtain ⟨j, hj, h⟩ := h; cases h
    cases k with
    | slice e => exact .slice (hr _ _ _ hj e)
    | flat f => cases f
  · rw [ob_some] at h
    obtain ⟨j, hj, h⟩ := h; cases h
    cases k with
    | map e => exact .map (hr _ _ _ hj e)
    | flat f => cases f
  · rw [bt_some] at h
    obtain ⟨hf, h⟩ := h; cases h
    rw [k.of_flat hf]; exact .flat hf
def plainV : Value → Bool
  | .func _ _ _ | .iface _ _ | .agg _ | .tuple _ => false
  | _ => true
theorem rnV_plain {r : Nat → Option Nat} {n : Nat} {v : Value} (e : plainV v = true) : rnV r (n + 1) v = rnS r v := by cases v <;> first | rfl | (cases e)
theorem rnV_scal {r : Nat → Option Nat} {n : Nat} {v : Value} (e : isScal v = true) : rnV r (n + 1) v = rnS r v := by cases v <;> first | rfl | (cases e)
theorem rnS_scal {r : Nat → Option Nat} {v u : Value} (e : isScal v = true) (h : rnS r v = some u) : isScal u = true := by
  unfold rnS at h
  split at h
  · rw [ob_some] at h; obtain ⟨_, _, h⟩ := h; cases h; rfl
  · rw [ob_some] at h; obtain ⟨_, _, h⟩ := h; cases h; rfl
  · cases e
  · rw [bt_some] at h; obtain ⟨_, h⟩ := h; cases h; exact e
theorem omap_vr {f : Value → Option Value} {σs σ' : Sg} (hf : ∀ v u v', f v = some u → VR σs v v' → VR σ' u v') : ∀ {l m l' : List Value}, omap f l = some m → VRL σs l l' → VRL σ' m l' := by
  intro l
  induction l with
  | nil => intro m l' h k; have := omap_nil.1 h; subst this; cases k; exact .nil
  | cons x l ih =>
    intro m l' h k
    obtain ⟨y, ys, h1, h2, rfl⟩ := omap_cons.1 h
    cases k with
    | cons a b => exact .cons (hf _ _ _ h1 a) (ih h2 b)
theorem rnV_vr {r : Nat → Option Nat} {σs σ' : Sg} (hr : ∀ i j p, r i = some j → σs i = some p → σ' j = some p) : ∀ (n : Nat) (v u v' : Value), rnV r n v = some u → VR σs v v' → VR σ' u v' := by
  intro n
  induction n with
  | zero => intro v u v' h; cases h
  | succ n ih =>
    intro v u v' h k
    cases v with
    | func fn f c =>
      have h : (ob (omap (rnV r n) f.toList) fun f' => ob (omap (rnV r n) c.toList) fun c' => some (Value.func fn ⟨f'⟩ ⟨c'⟩)) = some u := h
      simp only [ob_some, Option.some.injEq] at h
      obtain ⟨f1, h1, c1, h2, rfl⟩ := h
      cases k with
      | func a b => exact .func (omap_vr ih h1 a) (omap_vr ih h2 b)
      | flat f => cases f
    | iface t x =>
      have h : (Bool.rec (Bool.rec (ob (rnV r n x) fun y => some (Value.iface t y)) (some (.iface t x)) (isX t)) (rnMN r x) (Nat.beq t MN) : Option Value) = some u := h
      cases hb : Nat.beq t MN with
      | true =>
        rw [hb] at h
        have h : rnMN r x = some u := h
        rw [beqIff] at hb; subst hb
        have mnSYM : ¬ MN = SYM := by decide
        have mnUNK : ¬ MN = UNK := by decide
        cases k with
        | flat f => cases f
        | iface e a => exact absurd e noMN
        | mnil e f g =>
          rename_i nb i o l c _ _
          have h : (Option.rec (bt nb (some (.slice none 0 0))) (fun j => some (.iface MN (.agg ⟨[.bool nb, .slice (some ⟨j, o, none⟩) l c]⟩))) (r i) : Option Value) = some u := h
          cases hj : r i with
          | none => rw [hj] at h; subst e; cases h; exact .flat rfl
          | some j => rw [hj] at h; cases h; exact .mnil e f g
        | mn e f =>
          rename_i nb i o b d l c _ _
          have h : (Option.rec (bt nb (some (.slice none 0 0))) (fun j => some (.iface MN (.agg ⟨[.bool nb, .slice (some ⟨j, o, none⟩) l c]⟩))) (r i) : Option Value) = some u := h
          cases hj : r i with
          | none => rw [hj] at h; subst e; cases h
          | some j => rw [hj] at h; cases h; exact .mn e (hr _ _ _ hj f)
      | false =>
      rw [hb] at h
      have h : (Bool.rec (ob (rnV r n x) fun y => some (Value.iface t y)) (some (.iface t x)) (isX t) : Option Value) = some u := h
      cases hx : isX t with
      | true =>
        rw [hx] at h
        have h : some (Value.iface t x) = some u := h
        cases h
        obtain ⟨rfl, hs⟩ := k.ext_inv hx
        exact .mkX hx hs
      | false =>
      rw [hx] at h
      have h : (ob (rnV r n x) fun y => some (Value.iface t y)) = some u := h
      simp only [ob_some, Option.some.injEq] at h
      obtain ⟨y, h1, rfl⟩ := h
      cases k with
      | flat f => cases f
      | iface e a => exact .iface e (ih _ _ _ h1 a)
      | sym e a =>
        have hy := ih _ _ _ h1 a
        refine .sym ?_ hy
        cases n with
        | zero => cases h1
        | succ n =>
          rw [rnV_scal e] at h1
          exact rnS_scal e h1
      | any e =>
        cases n with
        | zero => cases h1
        | succ n =>
          have h1 : rnS r .nilIface = some y := h1
          have h1 : some Value.nilIface = some y := h1
          cases h1; exact .any e
      | emp e =>
        cases n with
        | zero => cases h1
        | succ n =>
          have h1 : rnS r (.slice none 0 0) = some y := h1
          have h1 : some (Value.slice none 0 0) = some y := h1
          cases h1; exact .emp e
      | ext => exact Bool.noConfusion (show (true : Bool) = false from hx)
      | exl => exact Bool.noConfusion (show (true : Bool) = false from hx)
      | mnil => exact Bool.noConfusion (show (true : Bool) = false from hb)
      | mn => exact Bool.noConfusion (show (true : Bool) = false from hb)
    | agg c =>
      have h : (ob (omap (rnV r n) c.toList) fun c' => some (Value.agg ⟨c'⟩)) = some u := h
      simp only [ob_some, Option.some.injEq] at h
      obtain ⟨c1, h1, rfl⟩ := h
      cases k with
      | agg a => exact .agg (omap_vr ih h1 a)
      | flat f => cases f
    | tuple c =>
      have h : (ob (omap (rnV r n) c.toList) fun c' => some (Value.tuple ⟨c'⟩)) = some u := h
      simp only [ob_some, Option.some.injEq] at h
      obtain ⟨c1, h1, rfl⟩ := h
      cases k with
      | tuple a => exact .tuple (omap_vr ih h1 a)
      | flat f => cases f
    | _ => rw [rnV_plain rfl] at h; exact rnS_vr hr h k
theorem rnE_er {r : Nat → Option Nat} {σs σ' : Sg} (hr : ∀ i j p, r i = some j → σs i = some p → σ' j = some p) : ∀ {l m l' : List MapEntry}, rnE r l = some m → ER σs l l' → ER σ' m l' := by
  intro l
  induction l with
  | nil => intro m l' h k; have := omap_nil.1 h; subst this; cases k; exact .nil
  | cons x l ih =>
    intro m l' h k
    obtain ⟨y, ys, h1, h2, rfl⟩ := omap_cons.1 h
    simp only [ob_some, Option.some.injEq] at h1
    obtain ⟨v, h3, rfl⟩ := h1
    cases k with
    | cons a b c d e => exact .cons a b (rnV_vr hr 6 _ _ _ h3 c) d (ih h2 e)
theorem rnP_or {r : Nat → Option Nat} {σs σ' : Sg} (hr : ∀ i j p, r i = some j → σs i = some p → σ' j = some p) {d : Nat} {q q' : PO} {x : Obj} (hfl : ∀ c e m, q = .f c e m → FlatL c) (h : rnP r q = some q') (k : OR P σs d q.ao x) : OR P σ' d q'.ao x := by
  have row : ∀ (c c' : List Value) (e : TypeId) (m : Md), (∀ xs, VRL σs c xs → VRL σ' c' xs) → OR P σs d (.row c e m) x → OR P σ' d (.row c' e m) x := by
    intro c c' e m hc k
    cases x with
    | cells cs ty fz =>
      obtain ⟨k1, k2⟩ := k
      obtain ⟨as_, x, e1, e2, e3⟩ := k2.cells
      exact ⟨k1, ⟨as_, x, e1, hc as_ e2, e3⟩, k2.exact_, k2.cap, k2.free⟩
    | _ => exact k.elim
  cases q with
  | p o =>
    cases o with
    | row c e m =>
      have h : (ob (omap (rnV r 6) c) fun c' => some (PO.p (.row c' e m))) = some q' := h
      simp only [ob_some, Option.some.injEq] at h
      obtain ⟨c', hc, rfl⟩ := h
      exact row c c' e m (fun xs hx => omap_vr (rnV_vr hr 6) hc hx) k
    | map es n =>
      have h : (ob (rnE r es) fun es' => some (PO.p (.map es' n))) = some q' := h
      simp only [ob_some, Option.some.injEq] at h
      obtain ⟨es', hc, rfl⟩ := h
      cases x with
      | map ms mk => exact ⟨k.1, rnE_er hr hc k.2⟩
      | _ => exact k.elim
    | dead => exact k.elim
  | f c e m =>
    have h : some (PO.f c e m) = some q' := h
    cases h
    exact row c c e m (fun xs hx => flatL_vr (hfl c e m rfl) hx) k
theorem rnP_same {r : Nat → Option Nat} {q q' : PO} (h : rnP r q = some q') : live q'.ao = live q.ao ∧ mayW q'.ao = mayW q.ao := by
  cases q with
  | p o =>
    cases o with
    | row c e m =>
      have h : (ob (omap (rnV r 6) c) fun c' => some (PO.p (.row c' e m))) = some q' := h
      simp only [ob_some, Option.some.injEq] at h
      obtain ⟨c', _, rfl⟩ := h; exact ⟨rfl, rfl⟩
    | map es n =>
      have h : (ob (rnE r es) fun es' => some (PO.p (.map es' n))) = some q' := h
      simp only [ob_some, Option.some.injEq] at h
      obtain ⟨c', _, rfl⟩ := h; exact ⟨rfl, rfl⟩
    | dead => cases h; exact ⟨rfl, rfl⟩
  | f c e m => cases h; exact ⟨rfl, rfl⟩
theorem keyR_iff {i : Nat} : ∀ {l : List (Nat × PO)}, keyR i l = true ↔ ∃ q, (i, q) ∈ l := by
  intro l
  induction l with
  | nil => exact ⟨fun h => (by cases h), fun ⟨_, h⟩ => (by cases h)⟩
  | cons p l ih =>
    have e : keyR i (p :: l) = (Bool.rec (keyR i l) true (Nat.beq i p.1) : Bool) := rfl
    rw [e]
    cases hb : Nat.beq i p.1 with
    | true =>
      have := beqIff.1 hb
      exact ⟨fun _ => ⟨p.2, by rw [this]; exact List.mem_cons_self⟩, fun _ => rfl⟩
    | false =>
      refine ⟨fun h => ?_, fun ⟨q, h⟩ => ?_⟩
      · obtain ⟨q, hq⟩ := ih.1 h; exact ⟨q, List.mem_cons_of_mem _ hq⟩
      · rcases List.mem_cons.1 h with e2 | h
        · rw [← e2] at hb; rw [beqIff.2 rfl] at hb; cases hb
        · exact ih.2 ⟨q, h⟩
theorem tput_mem : ∀ {l : List (Nat × PO)}, onceR l = true → ∀ i q, (i, q) ∈ l → (tput PO.ao l).get i = some q.ao := by
  intro l
  induction l with
  | nil => intro _ i q h; cases h
  | cons p l ih =>
    intro ho i q h
    have ho : (Bool.rec false (onceR l) (bnot (keyR p.1 l)) : Bool) = true := ho
    rw [recTrue, bnot_eq] at ho
    show (T.set (tput PO.ao l) p.1 p.2.ao).get i = _
    rw [get_set]
    rcases List.mem_cons.1 h with e | h
    · rw [← e]; simp
    · rw [if_neg]
      · exact ih (by first | exact ho.1 | exact ho.2) i q h
      · intro e
        have : keyR p.1 l = true := keyR_iff.2 ⟨q, by rw [← e]; exact h⟩
        rw [this] at ho
        simp at ho
theorem putR_get {H : T AO} {k : Nat} {o : AO} : ∀ {U : List (Nat × PO)}, (putR U H).get k = some o → (∃ q, (k, q) ∈ U ∧ o = q.ao) ∨ (keyR k U = false ∧ H.get k = some o) := by
  intro U
  induction U with
  | nil => intro h; exact .inr ⟨rfl, h⟩
  | cons p U ih =>
    intro h
    have h : (T.set (putR U H) p.1 p.2.ao).get k = some o := h
    rw [get_set] at h
    by_cases e : k = p.1
    · rw [if_pos e] at h; cases h; exact .inl ⟨p.2, by rw [e]; exact List.mem_cons_self, rfl⟩
    · rw [if_neg e] at h
      rcases ih h with ⟨q, h1, h2⟩ | ⟨h1, h2⟩
      · exact .inl ⟨q, List.mem_cons_of_mem _ h1, h2⟩
      · refine .inr ⟨?_, h2⟩
        show (Bool.rec (keyR k U) true (Nat.beq k p.1) : Bool) = false
        cases hb : Nat.beq k p.1 with
        | true => exact absurd (beqIff.1 hb) e
        | false => exact h1
theorem rnR_mem {r : Nat → Option Nat} : ∀ {R U : List (Nat × PO)}, rnR r R = some U → (∀ k q', (k, q') ∈ U → ∃ i q, (i, q) ∈ R ∧ r i = some k ∧ rnP r q = some q') ∧ (∀ i q k, (i, q) ∈ R → r i = some k → ∃ q', (k, q') ∈ U) := by
  intro R
  induction R with
  | nil => intro U h; cases h; exact ⟨fun _ _ h => (nomatch h), fun _ _ _ h => (nomatch h)⟩
  | cons p R ih =>
    intro U h
    have h : (Option.rec (rnR r R) (fun j => ob (rnP r p.2) fun q => ob (rnR r R) fun U => some ((j, q) :: U)) (r p.1) : Option (List (Nat × PO))) = some U := h
    cases hj : r p.1 with
    | none =>
      rw [hj] at h
      obtain ⟨ih1, ih2⟩ := ih (show rnR r R = some U from h)
      refine ⟨fun k q' hm => ?_, fun i q k hm hk => ?_⟩
      · obtain ⟨i, q, a, b, c⟩ := ih1 k q' hm; exact ⟨i, q, List.mem_cons_of_mem _ a, b, c⟩
      · rcases List.mem_cons.1 hm with e | hm
        · cases e; rw [hj] at hk; cases hk
        · exact ih2 i q k hm hk
    | some j =>
      rw [hj] at h
      have h : (ob (rnP r p.2) fun q => ob (rnR r R) fun U => some ((j, q) :: U)) = some U := h
      simp only [ob_some, Option.some.injEq] at h
      obtain ⟨q1, hq, ys, h2, rfl⟩ := h
      obtain ⟨ih1, ih2⟩ := ih h2
      refine ⟨fun k q' hm => ?_, fun i q k hm hk => ?_⟩
      · rcases List.mem_cons.1 hm with e | hm
        · cases e; exact ⟨p.1, p.2, List.mem_cons_self, hj, hq⟩
        · obtain ⟨i, q, a, b, c⟩ := ih1 k q' hm; exact ⟨i, q, List.mem_cons_of_mem _ a, b, c⟩
      · rcases List.mem_cons.1 hm with e | hm
        · cases e; rw [hj] at hk; cases hk; exact ⟨q1, List.mem_cons_self⟩
        · obtain ⟨q', b⟩ := ih2 i q k hm hk; exact ⟨q', List.mem_cons_of_mem _ b⟩
theorem mayWP_ao (q : PO) : mayWP q = mayW q.ao := by
  cases q with
  | p o => cases o <;> rfl
  | f c e m => rfl
theorem keepR_mem {R' : List (Nat × PO)} : ∀ {R : List (Nat × PO)}, keepR R R' = true → ∀ i q, (i, q) ∈ R → mayW q.ao = true → keyR i R' = true := by
  intro R
  induction R with
  | nil => intro _ i q h; cases h
  | cons p R ih =>
    intro h i q hm hw
    have h : (Bool.rec false (keepR R R') (Bool.rec true (keyR p.1 R') (mayWP p.2)) : Bool) = true := h
    rw [recTrue] at h
    obtain ⟨h1, h2⟩ := h
    rcases List.mem_cons.1 hm with e | hm
    · rw [← e] at h1
      simp only [mayWP_ao, hw] at h1
      exact h1
    · exact ih h2 i q hm hw
end Go.Ev
end

/- The evaluator with variables: a call of a function of which something is told is sound. -/
section
set_option linter.unusedSectionVars false
namespace Go.Ev
variable {P : Program} {σ : Sg} {w : World} [Frozen P]
theorem callW_sound {S : Spec} {J : S.α → Prop} (hS : ∀ a, J a → SpecAt P S a) {args : List Value} {A : AW} {K : Value → AW → Prop} (h : callW P S J args A K) : ∃ v A', K v A' ∧ FnSem P S.f args A v A' := by
  unfold callW at h
  obtain ⟨a, l, hJ, hpre, h⟩ := h
  obtain ⟨hok, hargs, hrows, hpost⟩ := cpb_iff.1 h
  clear h
  obtain ⟨v, R', n', hK, hflat, hsem⟩ := hS a hJ _ hpre hpost
  unfold backW at hK
  obtain ⟨u, hu, hK⟩ := cpo_iff.1 hK
  obtain ⟨U, hU, hK⟩ := cpo_iff.1 hK
  obtain ⟨hb, hK⟩ := cpb_iff.1 hK
  simp only [Bool.and_eq_true] at hb
  obtain ⟨honce, hkeep, hlt⟩ := hb
  refine ⟨u, _, hK, fun σ w args' hR ha => ?_⟩
  clear hK hpost
  generalize hng : P.globals.size = ng at *
  generalize hr : rnm ng l = r at *
  have hRs : Rel P (sgOf σ r) (mem (S.R a) S.n) w := by rw [← hr, ← hng]; exact rel_weak (by rw [hng]; exact hok) (by rw [hng, hr]; exact hrows) hR
  have has : VRL (sgOf σ r) (S.args a) args' := wvL_vr (r := r) (fun v u v' => wv_vr (by exact ren_sgOf r) 5 v u v') hargs ha
  have hgA : ∀ g, g < ng → g < A.next := fun g hg => by
    apply Nat.lt_of_not_le
    intro hle
    have := hR.glob g (by rw [hng]; exact hg)
    rw [hR.lim g hle] at this; cases this
  obtain ⟨kU1, kU2⟩ := rnR_mem hU
  -- rows of the small memory
  have hsm : ∀ i q, (i, q) ∈ S.R a → ∀ j, r i = some j → ∃ o', A.heap.get j = some o' ∧ wpo r q o' := rowsW_mem hrows
  have hAlt : ∀ j o, A.heap.get j = some o → j < A.next := fun j o hg => Nat.lt_of_not_le fun hle => by rw [hR.top j hle] at hg; cases hg
  have hsget : ∀ i o, (mem (S.R a) S.n).heap.get i = some o → ∃ q, (i, q) ∈ S.R a ∧ o = q.ao := fun i o hg => tput_get hg
  -- what may be written there may be written here
  have hwr : ∀ b, Wr (sgOf σ r) (mem (S.R a) S.n) b → ∃ i q j d o', (i, q) ∈ S.R a ∧ mayW q.ao = true ∧ r i = some j ∧ σ j = some (b, d) ∧ A.heap.get j = some o' ∧ mayW o' = true := by
    rintro b ⟨i, d, o, h1, h2, h3⟩
    obtain ⟨q, hq, rfl⟩ := hsget i o h2
    obtain ⟨j, e1, e5⟩ := sgOf_some h1
    obtain ⟨o', e2, e3⟩ := hsm i q hq j e1
    exact ⟨i, q, j, d, o', hq, h3, e1, e5, e2, (wpo_mayW e3 (live_of_mayW h3)).1 h3⟩
  have hwrA : ∀ b, Wr (sgOf σ r) (mem (S.R a) S.n) b → Wr σ A b := fun b hb => by
    obtain ⟨i, q, j, d, o', _, _, _, h1, h2, h3⟩ := hwr b hb
    exact ⟨j, d, o', h1, h2, h3⟩
  have good : ∀ v' w', Good P (sgOf σ r) (mem (S.R a) S.n) w v (mem R' n') v' w' → Good P σ A w u ⟨putR U A.heap, Nat.add A.next (Nat.sub n' S.n)⟩ v' w' := by
    rintro v' w' ⟨σs, hv', hR', hS'⟩
    have hnn : S.n ≤ n' := hS'.next
    have hnext : (Nat.add A.next (Nat.sub n' S.n)) = A.next + (n' - S.n) := rfl
    rw [hnext]
    let σ' : Sg := fun k => if k < A.next then σ k else σs (k - A.next + S.n)
    have hs1 : ∀ k, k < A.next → σ' k = σ k := fun k hk => if_pos hk
    have hs2 : ∀ k, ¬ k < A.next → σ' k = σs (k - A.next + S.n) := fun k hk => if_neg hk
    have hrho1 : ∀ i, i < S.n → rho ng S.n A.next l i = r i := fun i hi => by
      unfold rho
      have : Nat.blt i S.n = true := by simp [Nat.blt_eq, hi]
      rw [this, hr]
    have hrho2 : ∀ i, ¬ i < S.n → rho ng S.n A.next l i = some (A.next + (i - S.n)) := fun i hi => by
      unfold rho
      have : Nat.blt i S.n = false := by
        cases hb : Nat.blt i S.n with
        | false => rfl
        | true => exact absurd (by simpa [Nat.blt_eq] using hb) hi
      rw [this]; rfl
    have hold : ∀ i, i < S.n → σs i = sgOf σ r i := fun i hi => hS'.ext i hi
    have hmap : ∀ i j p, rho ng S.n A.next l i = some j → σs i = some p → σ' j = some p := fun i j p hj hp => by
      by_cases hi : i < S.n
      · rw [hrho1 i hi] at hj
        rw [hold i hi] at hp
        obtain ⟨j', e1, e2⟩ := sgOf_some hp
        rw [hj] at e1; cases e1
        rw [hs1 j (Nat.lt_of_not_le fun hle => by rw [hR.lim j hle] at e2; cases e2)]; exact e2
      · rw [hrho2 i hi] at hj; cases hj
        rw [hs2 _ (by omega), show A.next + (i - S.n) - A.next + S.n = i by omega]; exact hp
    have hsub : Sub σ σ' := fun i p hp => by
      rw [hs1 i (Nat.lt_of_not_le fun hle => by rw [hR.lim i hle] at hp; cases hp)]; exact hp
    have hBget : ∀ i q, (i, q) ∈ R' → (mem R' n').heap.get i = some q.ao := fun i q hm => tput_mem honce i q hm
    -- an old place of which something is told
    have holdA : ∀ i q j, (i, q) ∈ R' → i < S.n → live q.ao = true → r i = some j → ∃ q0 o', (i, q0) ∈ S.R a ∧ live q0.ao = true ∧ A.heap.get j = some o' ∧ live o' = true ∧ j < A.next := fun i q j hm hi hl hj => by
      obtain ⟨o0, h1, h2⟩ := hS'.old i _ hi (hBget i q hm) hl
      obtain ⟨q0, h3, rfl⟩ := hsget i o0 h1
      obtain ⟨o', e2, e3⟩ := hsm i q0 h3 j hj
      exact ⟨q0, o', h3, h2, e2, (wpo_mayW e3 h2).2, hAlt j o' e2⟩
    -- a place that is told of
    have hback : ∀ i q k, (i, q) ∈ R' → live q.ao = true → rho ng S.n A.next l i = some k → σ' k = σs i ∧ (k < A.next ↔ i < S.n) := fun i q k hm hl hk => by
      by_cases hi : i < S.n
      · rw [hrho1 i hi] at hk
        obtain ⟨q0, o', _, _, _, _, e4⟩ := holdA i q k hm hi hl hk
        refine ⟨?_, fun _ => hi, fun _ => e4⟩
        rw [hs1 _ e4, hold i hi]
        simp [sgOf, hk]
      · rw [hrho2 i hi] at hk; cases hk
        refine ⟨by rw [hs2 _ (by omega), show A.next + (i - S.n) - A.next + S.n = i by omega], fun h => by omega, fun h => by omega⟩
    have hm : ∀ k o, (putR U A.heap).get k = some o → (∃ i q q', (i, q) ∈ R' ∧ rho ng S.n A.next l i = some k ∧ rnP (rho ng S.n A.next l) q = some q' ∧ o = q'.ao ∧ k < A.next + (n' - S.n)) ∨ (keyR k U = false ∧ A.heap.get k = some o ∧ k < A.next) := fun k o hg => by
      rcases putR_get hg with ⟨q', h1, rfl⟩ | ⟨h1, h2⟩
      · obtain ⟨i, q, e1, e2, e3⟩ := kU1 k q' h1
        have := lall_mem hlt _ h1
        exact .inl ⟨i, q, q', e1, e2, e3, rfl, by simpa [Nat.blt_eq] using this⟩
      · exact .inr ⟨h1, h2, hAlt k o h2⟩
    have hor : ∀ i q q' d x, (i, q) ∈ R' → rnP (rho ng S.n A.next l) q = some q' → OR P σs d q.ao x → OR P σ' d q'.ao x := fun i q q' d x hm hq k => rnP_or hmap (fun c e m hc => by subst hc; exact hflat i c e m hm) hq k
    -- blocks of what stays
    have hstay : ∀ k b d o, keyR k U = false → A.heap.get k = some o → live o = true → σ k = some (b, d) → ¬ Wr (sgOf σ r) (mem (S.R a) S.n) b := fun k b d o hk hg hl hi hw => by
      obtain ⟨i, q, j, d', o', h1, h2, h3, h4, h5, h6⟩ := hwr b hw
      obtain rfl := hR.inj k j b d d' o o' hi h4 hg h5 hl (live_of_mayW h6) (by rw [h6, Bool.or_true])
      obtain ⟨q2, hq2⟩ := keyR_iff.1 (keepR_mem hkeep i q h1 h2)
      have hilt : i < S.n := by
        obtain ⟨_, _, k3, _⟩ := okMS_some hok
        exact k3 i q h1
      obtain ⟨q', e2⟩ := kU2 i q2 k hq2 (by rw [hrho1 i hilt]; exact h3)
      rw [keyR_iff.2 ⟨_, e2⟩] at hk; cases hk
    have hltw : ∀ i b d o, A.heap.get i = some o → live o = true → σ i = some (b, d) → b < w.heap.size := fun i b d o hg hl hi => by
      obtain ⟨x, hx, _⟩ := hR.obj i b d o hi hg hl
      exact (Array.getElem?_eq_some_iff.1 hx).1
    have hmix : ∀ i q q' k j b d d' o', (i, q) ∈ R' → rho ng S.n A.next l i = some k → (k, q') ∈ U → live q.ao = true → σs i = some (b, d) → keyR j U = false → A.heap.get j = some o' → live o' = true → σ j = some (b, d') → (mayW q.ao || mayW o') = true → k = j := fun i q q' k j b d d' o' hq hk hkU hl hsi hkj hgj hlj hj hjk => by
      have hb := hltw j b d' o' hgj hlj hj
      by_cases hib : i < S.n
      · cases hmo : mayW q.ao with
        | true => exact (hstay j b d' o' hkj hgj hlj hj (hS'.wr b hb ⟨i, d, _, hsi, hBget i q hq, hmo⟩)).elim
        | false =>
          rw [hmo, Bool.false_or] at hjk
          rw [hrho1 i hib] at hk
          obtain ⟨q0, o2, _, _, e2, e3, _⟩ := holdA i q k hq hib hl hk
          rw [hold i hib] at hsi
          obtain ⟨j3, f1, f2⟩ := sgOf_some hsi
          rw [hk] at f1; cases f1
          exact hR.inj k j b d d' o2 o' f2 hj e2 hgj e3 hlj (by rw [hjk, Bool.or_true])
      · have hw := hS'.new i b d _ (Nat.le_of_not_lt hib) hsi (hBget i q hq) hl hb
        exact (hstay j b d' o' hkj hgj hlj hj hw).elim
    have hkey : ∀ i q k, (i, q) ∈ R' → rho ng S.n A.next l i = some k → ∃ q', (k, q') ∈ U := fun i q k hq hk => by
      exact kU2 i q k hq hk
    refine ⟨σ', rnV_vr hmap 6 _ _ _ hu hv', hR.both ⟨⟨?_, ?_, ?_, ?_, ?_⟩, ⟨hs1, Nat.le_add_right _ _, hS'.os, hS'.tape, hS'.output, hS'.size, ?_, ?_, ?_, ?_⟩⟩⟩
    · intro k b d o hi hg hl
      rcases hm k o hg with ⟨i, q, q', e1, e2, e3, rfl, _⟩ | ⟨hk, hgA, hlt'⟩
      · obtain ⟨hl2, _⟩ := rnP_same e3
        rw [hl2] at hl
        rw [(hback i q k e1 hl e2).1] at hi
        obtain ⟨x, hx, hox⟩ := hR'.obj i b d _ hi (hBget i q e1) hl
        exact ⟨x, hx, hor i q q' d x e1 e3 hox⟩
      · rw [hs1 k hlt'] at hi
        obtain ⟨x, hx, hox⟩ := hR.obj k b d o hi hgA hl
        refine ⟨x, ?_, hox.sub hsub⟩
        rw [hS'.block b (hltw k b d o hgA hl hi) (hstay k b d o hk hgA hl hi)]; exact hx
    · intro k k2 b d d' o o' hi hj hgi hgj hli hlj hjk
      rcases hm k o hgi with ⟨i, q, q', e1, e2, e3, rfl, _⟩ | ⟨hki, hgiA, hlti⟩ <;> rcases hm k2 o' hgj with ⟨i2, q2, q2', f1, f2, f3, rfl, _⟩ | ⟨hkj, hgjA, hltj⟩
      · obtain ⟨a1, a2⟩ := rnP_same e3
        obtain ⟨b1, b2⟩ := rnP_same f3
        rw [a1] at hli; rw [b1] at hlj; rw [a2, b2] at hjk
        rw [(hback i q k e1 hli e2).1] at hi
        rw [(hback i2 q2 k2 f1 hlj f2).1] at hj
        obtain rfl := hR'.inj i i2 b d d' _ _ hi hj (hBget i q e1) (hBget i2 q2 f1) hli hlj hjk
        rw [e2] at f2; cases f2; rfl
      · obtain ⟨a1, a2⟩ := rnP_same e3
        rw [a1] at hli; rw [a2] at hjk
        rw [(hback i q k e1 hli e2).1] at hi
        rw [hs1 k2 hltj] at hj
        obtain ⟨qk, hqk⟩ := hkey i q k e1 e2
        exact hmix i q qk k k2 b d d' o' e1 e2 hqk hli hi hkj hgjA hlj hj hjk
      · obtain ⟨b1, b2⟩ := rnP_same f3
        rw [b1] at hlj; rw [b2] at hjk
        rw [(hback i2 q2 k2 f1 hlj f2).1] at hj
        rw [hs1 k hlti] at hi
        obtain ⟨qk, hqk⟩ := hkey i2 q2 k2 f1 f2
        exact (hmix i2 q2 qk k2 k b d' d o f1 f2 hqk hlj hj hki hgiA hli hi (by rw [Bool.or_comm]; exact hjk)).symm
      · rw [hs1 k hlti] at hi; rw [hs1 k2 hltj] at hj
        exact hR.inj k k2 b d d' o o' hi hj hgiA hgjA hli hlj hjk
    · intro i hi
      have hi : A.next + (n' - S.n) ≤ i := hi
      rw [hs2 i (by omega)]
      exact hR'.lim _ (by show n' ≤ _; omega)
    · intro g hg
      rw [hs1 g (hgA g (by rw [← hng]; exact hg))]; exact hR.glob g hg
    · intro i hi
      have hi : A.next + (n' - S.n) ≤ i := hi
      cases hg : (putR U A.heap).get i with
      | none => rfl
      | some o =>
        rcases hm i o hg with ⟨_, _, _, _, _, _, _, hlt2⟩ | ⟨_, _, hlt'⟩
        · omega
        · omega
    · intro b hb hw; exact hS'.block b hb fun h' => hw (hwrA b h')
    · rintro b hb ⟨k, d, o, hi, hg, hmw⟩
      rcases hm k o hg with ⟨i, q, q', e1, e2, e3, rfl, _⟩ | ⟨_, hgA, hlt'⟩
      · obtain ⟨a1, a2⟩ := rnP_same e3
        rw [a2] at hmw
        rw [(hback i q k e1 (live_of_mayW hmw) e2).1] at hi
        exact hwrA b (hS'.wr b hb ⟨i, d, _, hi, hBget i q e1, hmw⟩)
      · rw [hs1 k hlt'] at hi; exact ⟨k, d, o, hi, hgA, hmw⟩
    · intro k b d o hi hs' hg hl hb
      rcases hm k o hg with ⟨i, q, q', e1, e2, e3, rfl, _⟩ | ⟨_, _, hlt'⟩
      · obtain ⟨a1, a2⟩ := rnP_same e3
        rw [a1] at hl
        obtain ⟨g1, g2⟩ := hback i q k e1 hl e2
        rw [g1] at hs'
        exact hwrA b (hS'.new i b d _ (by show S.n ≤ i; omega) hs' (hBget i q e1) hl hb)
      · omega
    · intro k o hi hg hl
      rcases hm k o hg with ⟨i, q, q', e1, e2, e3, rfl, _⟩ | ⟨_, hgA, _⟩
      · obtain ⟨a1, a2⟩ := rnP_same e3
        rw [a1] at hl
        obtain ⟨g1, g2⟩ := hback i q k e1 hl e2
        have hib : i < S.n := g2.1 hi
        rw [hrho1 i hib] at e2
        obtain ⟨q0, o', _, _, f2, f3, _⟩ := holdA i q k e1 hib hl e2
        exact ⟨o', f2, f3⟩
      · exact ⟨o, hgA, hl⟩
  rcases hsem (sgOf σ r) w args' hRs has with ⟨v', w', e, hg⟩ | ⟨g, as_, e, hg⟩
  · exact .inl ⟨v', w', e, good v' w' hg⟩
  · refine .inr ⟨g, as_, e, Calls.mono hg fun en w' he => ?_⟩
    cases en with
    | returned v' => exact good v' w' he
    | _ => exact he.elim
end Go.Ev
end

/- The evaluator with variables: what is told of a function in a plain form: ways out, each by a thing that varies; a call finds by itself of which things it is told. -/
section
set_option linter.unusedSectionVars false
namespace Go.Ev
variable {P : Program} [Frozen P]
structure Out (α : Type) where
  β : Type
  Q : α → β → Prop
  v : α → β → Value
  R : α → β → List (Nat × PO)
  n : α → β → Nat
  ren : Value → AW → List (Nat × Nat)
structure SpecD where
  f : FuncId
  α : Type
  args : α → List Value
  R : α → List (Nat × PO)
  n : Nat
  pre : α → Prop
  outs : List (Out α)
  pick : Value → AW → Nat
  find : List Value → AW → Option (α × List (Nat × Nat))
noncomputable section
def outsW {α : Type} (a : α) (K : Value → List (Nat × PO) → Nat → Prop) (l : List (Out α)) : Prop := List.rec True (fun o _ ih => (∀ b : o.β, o.Q a b → K (o.v a b) (o.R a b) (o.n a b)) ∧ ih) l
def outAt {α : Type} (l : List (Out α)) (f : Out α → Prop) : Nat → Prop := List.rec (motive := fun _ => Nat → Prop) (fun _ => False) (fun o _ ih k => Nat.rec (f o) (fun k _ => ih k) k) l
def SpecD.spec (S : SpecD) : Spec := ⟨S.f, S.α, S.args, S.R, S.n, S.pre, fun a K => outsW a K S.outs⟩
def endD (P : Program) [Frozen P] (S : SpecD) (a : S.α) (v : Value) (A : AW) : Prop := outAt S.outs (fun o => ∃ b : o.β, o.Q a b ∧ seenW P S.n (o.ren v A) v A (o.v a b) (o.R a b) (o.n a b)) (S.pick v A)
def callD (P : Program) [Frozen P] (S : SpecD) (J : S.α → Prop) (args : List Value) (A : AW) (K : Value → AW → Prop) : Prop := cpo (S.find args A) fun p => (J p.1 ∧ S.pre p.1) ∧ cpb (okMS P.globals.size P.globals.size p.2 ⟨[], S.R p.1, S.n⟩)
  ((wvL (wv (rnm P.globals.size p.2) 5) (S.args p.1) args ∧ rowsW (rnm P.globals.size p.2) A.heap (S.R p.1)) ∧ outsW p.1 (backW P.globals.size S.n A.next p.2 (S.R p.1) A.heap K) S.outs)
def cwD (P : Program) [Frozen P] (S : SpecD) (cw : CW) : CW := fun f args A K => Bool.rec (cw f args A K) (callD P S (fun _ => True) args A K) (Nat.beq f S.f)
def cwR (P : Program) [Frozen P] (S : SpecD) (J : S.α → Prop) (cw : CW) : CW := fun f args A K => Bool.rec (cw f args A K) (callD P S J args A K) (Nat.beq f S.f)
end
theorem outAt_some {α : Type} {f : Out α → Prop} : ∀ {l : List (Out α)} {i : Nat}, outAt l f i → ∃ o ∈ l, f o := by
  intro l
  induction l with
  | nil => intro i h; exact h.elim
  | cons y l ih =>
    intro i h
    cases i with
    | zero => exact ⟨y, List.mem_cons_self, h⟩
    | succ i =>
      obtain ⟨o, h1, h2⟩ := ih (show outAt l f i from h)
      exact ⟨o, List.mem_cons_of_mem _ h1, h2⟩
theorem outsW_mem {α : Type} {a : α} {K : Value → List (Nat × PO) → Nat → Prop} : ∀ {l : List (Out α)}, outsW a K l → ∀ o ∈ l, ∀ b : o.β, o.Q a b → K (o.v a b) (o.R a b) (o.n a b) := by
  intro l
  induction l with
  | nil => intro _ o ho; cases ho
  | cons x l ih =>
    intro h o ho
    rcases List.mem_cons.1 ho with e | ho
    · subst e; exact h.1
    · exact ih h.2 o ho
theorem specD_at {E : Env} {cw : CW} (hE : EnvOK P E) (hcw : CwOK P cw) {S : SpecD} {an : Anns} {a : S.α} (h : S.pre a → fnW P E cw an S.f (S.args a) (mem (S.R a) S.n) (endD P S a)) : SpecAt P S.spec a := fun K hp hq => by
  obtain ⟨v, A', he, hf⟩ := fnW_sound hE hcw (h hp)
  obtain ⟨o, ho, b, hQ, hs⟩ := outAt_some he
  exact ⟨_, _, _, outsW_mem hq o ho b hQ, flatR_rows (cpb_iff.1 hs).2.2, fnSem_seen rfl hf hs⟩
theorem callD_W {S : SpecD} {J : S.α → Prop} {args : List Value} {A : AW} {K : Value → AW → Prop} (h : callD P S J args A K) : callW P S.spec J args A K := by
  unfold callD at h
  obtain ⟨⟨a, l⟩, _, ⟨hJ, hpre⟩, h⟩ := cpo_iff.1 h
  obtain ⟨h1, ⟨h2, h3⟩, h4⟩ := cpb_iff.1 h
  exact ⟨a, l, hJ, hpre, cpb_iff.2 ⟨h1, h2, h3, h4⟩⟩
theorem cwR_ok {S : SpecD} {J : S.α → Prop} {cw : CW} (h : ∀ a, J a → SpecAt P S.spec a) (hc : CwOK P cw) : CwOK P (cwR P S J cw) := fun f args A K hk => by
  unfold cwR at hk
  cases hb : Nat.beq f S.f with
  | false => rw [hb] at hk; exact hc f args A K hk
  | true =>
    rw [hb] at hk
    obtain ⟨v, A', h1, h2⟩ := callW_sound h (callD_W hk)
    rw [beqIff.1 hb]; exact ⟨v, A', h1, h2⟩
theorem cwD_ok {S : SpecD} {cw : CW} (h : SpecOK P S.spec) (hc : CwOK P cw) : CwOK P (cwD P S cw) := cwR_ok (J := fun _ => True) (fun a _ => h a) hc
end Go.Ev
end

/- The evaluator with variables: what rows hold; slices by their parts. -/
section
set_option linter.unusedSectionVars false
namespace Go.Ev
abbrev mnS (i : Nat) (nb : Bool) (o l c : Nat) : Value := .iface MN (.agg ⟨[.bool nb, .slice (some ⟨i, o, none⟩) l c]⟩)
def renS (i : Nat) (v : Value) : List (Nat × Nat) := match v with
  | .slice (some ⟨b, _, _⟩) _ _ => [(i, b)]
  | .iface _ (.slice (some ⟨b, _, _⟩) _ _) => [(i, b)]
  | .iface _ (.agg ⟨[.bool _, .slice (some ⟨b, _, _⟩) _ _]⟩) => [(i, b)]
  | _ => []
def iv (v : Value) : Int := match v with
  | .int _ z => z
  | .iface _ (.int _ z) => z
  | _ => 0
def bv (v : Value) : Bool := match v with
  | .bool z => z
  | .iface _ (.bool z) => z
  | _ => false
noncomputable section
def lv (l : List Value) (i : Nat) : Value := Option.rec .nilIface (fun v => v) (lget l i)
def agv (v : Value) : List Value := match v with
  | .agg c => c.toList
  | .tuple c => c.toList
  | _ => []
def tv (s : St) (i : Nat) : Value := Option.rec .nilIface (fun v => v) (s.F.get i)
def rowO (A : AW) (b : Nat) : List Value := Option.rec [] (fun o => AO.rec (fun c _ _ => c) (fun _ _ => []) [] o) (A.heap.get b)
end
def HV {α : Type} (f : α → Value) (c : List Value) (o : Nat) (xs : List α) : Prop := ∀ i x, xs[i]? = some x → Rd c (o + i) (f x)
structure HW {α : Type} (f : α → Value) (c : List Value) (xs : List α) : Prop where
  len : c.length = xs.length
  at_ : HV f c 0 xs
abbrev HE (k : IntKind) (c : List Value) (xs : List Int) : Prop := HW (Value.int k) c xs
theorem Rd.mono_append {c ys : List Value} {o : Nat} {v : Value} (h : Rd c o v) : Rd (c ++ ys) o v := by
  unfold Rd at h ⊢
  have hl : o < c.length := by
    rcases h with h | h <;> exact (List.getElem?_eq_some_iff.1 h).1
  rw [List.getElem?_append_left hl]; exact h
theorem HW.nil {α : Type} {f : α → Value} : HW f [] [] := ⟨rfl, fun i x h => by simp at h⟩
theorem HW.append {α : Type} {f : α → Value} {c ys : List Value} {xs zs : List α} (h : HW f c xs) (g : HW f ys zs) : HW f (c ++ ys) (xs ++ zs) := by
  refine ⟨by simp [h.len, g.len], fun i x hx => ?_⟩
  rw [Nat.zero_add]
  by_cases hi : i < xs.length
  · rw [List.getElem?_append_left hi] at hx
    have := h.at_ i x hx
    rw [Nat.zero_add] at this
    exact this.mono_append
  · rw [List.getElem?_append_right (by omega)] at hx
    have := g.at_ _ x hx
    rw [Nat.zero_add] at this
    unfold Rd at this ⊢
    rw [List.getElem?_append_right (by have := h.len; omega), h.len]; exact this
theorem HW.one {k : IntKind} {z : Int} : HE k [tgI k z] [z] := ⟨rfl, fun i x h => by
  cases i with
  | zero => cases h; exact .inr rfl
  | succ i => simp at h⟩
theorem HW.snoc {k : IntKind} {c : List Value} {xs : List Int} {z : Int} (h : HE k c xs) : HE k (c ++ [tgI k z]) (xs ++ [z]) := h.append .one
theorem HW.mem {k : IntKind} {c : List Value} {xs : List Int} (h : HE k c xs) : ∀ v ∈ c, ∃ x, v = .int k x ∨ v = tgI k x := fun v hv => by
  obtain ⟨i, hi, rfl⟩ := List.getElem_of_mem hv
  have hx : xs[i]? = some (xs[i]'(by rw [← h.len]; exact hi)) := List.getElem?_eq_getElem _
  have := h.at_ i _ hx
  rw [Nat.zero_add] at this
  unfold Rd at this
  rw [List.getElem?_eq_getElem hi] at this
  rcases this with e | e
  · exact ⟨_, .inl (Option.some.inj e)⟩
  · exact ⟨_, .inr (Option.some.inj e)⟩
theorem ftag_int (k : IntKind) (x : Int) : ftag (.int k x) = true := rfl
theorem ftag_tgI (k : IntKind) (x : Int) : ftag (tgI k x) = true := rfl
theorem HW.flat {k : IntKind} {c : List Value} {xs : List Int} (h : HE k c xs) : FlatL c := fun v hv => by
  obtain ⟨x, rfl | rfl⟩ := h.mem v hv
  · exact ftag_int k x
  · exact ftag_tgI k x
theorem oneK_tgI (k : IntKind) (x : Int) : oneK (tgI k x) = true := rfl
theorem HW.oneK {k : IntKind} {c : List Value} {xs : List Int} (h : HE k c xs) : lall oneK c = true := by
  rw [lall_iff]
  intro v hv
  obtain ⟨x, rfl | rfl⟩ := h.mem v hv
  · rfl
  · exact oneK_tgI k x
theorem HW.get {α : Type} {f : α → Value} {c : List Value} {xs : List α} (h : HW f c xs) {i : Nat} (hi : i < xs.length) : Rd c i (f (xs[i]'hi)) := by
  have := h.at_ i _ (List.getElem?_eq_getElem hi)
  rwa [Nat.zero_add] at this
theorem HV.get {α : Type} {f : α → Value} {c : List Value} {o : Nat} {xs : List α} (h : HV f c o xs) {i : Nat} (hi : i < xs.length) : Rd c (o + i) (f (xs[i]'hi)) := h i _ (List.getElem?_eq_getElem hi)
theorem HW.hv {α : Type} {f : α → Value} {c : List Value} {xs : List α} (h : HW f c xs) : HV f c 0 xs := h.at_
theorem HV.take {α : Type} {f : α → Value} {c : List Value} {o : Nat} {xs : List α} (h : HV f c o xs) (n : Nat) : HV f c o (xs.take n) := fun i x hx => h i x (by
  rw [List.getElem?_take] at hx
  split at hx
  · exact hx
  · cases hx)
theorem flatL_nil : FlatL [] := fun _ h => by cases h
theorem HW.put {k : IntKind} {c : List Value} {xs : List Int} {z : Int} {i : Nat} (h : HE k c xs) (hi : i < xs.length) : HE k (lput c i [tgI k z]) (xs.set i z) := by
  have hl := h.len
  refine ⟨by simp [lput]; omega, fun j x hx => ?_⟩
  rw [Nat.zero_add]
  unfold Rd lput
  by_cases e : j = i
  · subst e
    rw [List.getElem?_set_self (by omega)] at hx
    cases hx
    right
    rw [List.getElem?_append_right (by simp; omega)]
    simp [show j - min j c.length = 0 by omega]
    rfl
  · rw [List.getElem?_set_ne (by omega)] at hx
    have := h.at_ j x hx
    rw [Nat.zero_add] at this
    unfold Rd at this
    by_cases hj : j < i
    · rw [List.getElem?_append_left (by simp; omega), List.getElem?_take_of_lt hj]; exact this
    · rw [List.getElem?_append_right (by simp; omega)]
      have e1 : j - (List.take i c).length = (j - i - 1) + 1 := by simp; omega
      rw [e1, List.singleton_append, List.getElem?_cons_succ, List.getElem?_drop]
      have e2 : i + [tgI k z].length + (j - i - 1) = j := by simp; omega
      rw [e2]; exact this
structure Sli {α : Type} (f : α → Value) (sz : Nat) (nb : Bool) (o l k : Nat) (c : List Value) (xs : List α) : Prop where
  at_ : HV f c o xs
  len : xs.length = l * sz
  nil : nb = true → l = 0 ∧ k = 0
  fit : nb = false → o + l * sz ≤ c.length
  cap : l ≤ k
  flat : FlatL c
theorem Sli.none {α : Type} {f : α → Value} {sz : Nat} : Sli f sz true 0 0 0 [] [] := ⟨fun i x h => by simp at h, by simp, fun _ => ⟨rfl, rfl⟩, (fun h => nomatch h), Nat.le_refl _, flatL_nil⟩
theorem Sli.row {α : Type} {f : α → Value} {sz l k : Nat} {c : List Value} {xs : List α} (h : HW f c xs) (hl : xs.length = l * sz) (hk : l ≤ k) (hf : FlatL c) : Sli f sz false 0 l k c xs := ⟨h.at_, hl, (fun h => nomatch h), (fun _ => by rw [Nat.zero_add, h.len, hl]; exact Nat.le_refl _), hk, hf⟩
end Go.Ev
end
