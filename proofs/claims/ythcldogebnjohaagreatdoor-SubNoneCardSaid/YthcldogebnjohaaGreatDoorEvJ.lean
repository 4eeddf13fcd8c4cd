/- The evaluator: every quiet operation gives what the model gives. -/
import Derived.Test.YthcldogebnjohaaGreatDoorEvH
section
set_option linter.unusedSectionVars false
namespace Go.Ev
variable {P : Program} {σ : Sg} {A : AW} {w : World} [Frozen P]
def OK (P : Program) [Frozen P] (σ : Sg) (F : T Value) (a : Act) (xs : List Operand) : Prop := ∀ x ∈ xs, ∀ v, opnd P F x = some v → VR σ v (a.eval x)
theorem opnds_run {F : T Value} {a : Act} : ∀ {xs : List Operand} {vs : List Value}, OK P σ F a xs → opnds P F xs = some vs → VRL σ vs (xs.map a.eval) := by
  intro xs
  induction xs with
  | nil => intro vs _ h; have := omap_nil.1 h; subst this; exact .nil
  | cons x xs ih =>
    intro vs hO h
    obtain ⟨y, ys, h1, h2, rfl⟩ := omap_cons.1 h
    exact .cons (hO x (by simp) y h1) (ih (fun x hx => hO x (by simp [hx])) h2)
theorem parts_run {F : T Value} {a : Act} : ∀ {xs : List (Nat × Operand)} {vs : List (Nat × Value)}, OK P σ F a (xs.map (·.2)) → partsA P F xs = some vs → PR σ vs (xs.map fun p => (p.1, a.eval p.2)) := by
  intro xs
  induction xs with
  | nil => intro vs _ h; have := omap_nil.1 h; subst this; exact .nil
  | cons x xs ih =>
    intro vs hO h
    obtain ⟨y, ys, h1, h2, rfl⟩ := omap_cons.1 h
    simp only [ob_some, Option.some.injEq] at h1
    obtain ⟨v, hv, rfl⟩ := h1
    exact .cons (hO x.2 (by simp) v hv) (ih (fun x hx => hO x (by simp at hx ⊢; exact .inr hx)) h2)
theorem optOp_run {F : T Value} {a : Act} {x : Option Operand} {v : Option Value} (hO : OK P σ F a x.toList) (h : optOp P F x = some v) : OVR σ v (x.map a.eval) := by
  cases x with
  | none => cases h; exact .none
  | some x =>
    have h' : (ob (opnd P F x) fun v => some (some v)) = some v := h
    simp only [ob_some, Option.some.injEq] at h'
    obtain ⟨u, hu, rfl⟩ := h'
    exact .some (hO x (by simp) u hu)
theorem nilCheck_run {x x' u : Value} (h : nilCheckA x = some u) (hx : VR σ x x') : u = x ∧ ((∃ p, x' = .pointer (some p)) ∨ ∃ f a c, x' = .func (.func f) a c) := by
  unfold nilCheckA at h
  split at h
  · cases h; rw [hx.ptr_plain] at hx; obtain ⟨b, d, _, rfl⟩ := hx.ptr_inv; exact ⟨rfl, .inl ⟨_, rfl⟩⟩
  · cases h
    cases hx with
    | func _ _ => exact ⟨rfl, .inr ⟨_, _, _, rfl⟩⟩
    | flat e => simp [flat] at e
  · cases h
theorem map_pairs (a : Act) (ps : List (Nat × Operand)) : (⟨ps⟩ : Array (Nat × Operand)).map (fun (i, x) => (i, a.eval x)) = ⟨ps.map fun p => (p.1, a.eval p.2)⟩ := by
  have : (⟨ps⟩ : Array (Nat × Operand)) = ps.toArray := rfl
  rw [this, List.map_toArray]
theorem map_ops (a : Act) (xs : List Operand) : (⟨xs⟩ : Array Operand).map a.eval = ⟨xs.map a.eval⟩ := by
  have : (⟨xs⟩ : Array Operand) = xs.toArray := rfl
  rw [this, List.map_toArray]
theorem data_run (a : Addr) (l c : Nat) (hc : c ≠ 0) (ts : Array TypeId) (ty : TypeId) (w : World) : (Builtin.unsafeSliceData_ ts ty #[.slice (some a) l c]).run P w = .ok (.pointer (some a)) w := by
  show (if c ≠ 0 then (pure (.pointer (some a)) : Sem Value) else _).run P w = _
  rw [if_pos hc]; rfl
theorem dataV_run {x x' u : Value} (h : dataV x = some u) (hx : VR σ x x') (ts : Array TypeId) (ty : TypeId) (w : World) : ∃ u', VR σ u u' ∧ (Builtin.unsafeSliceData_ ts ty #[x']).run P w = .ok u' w := by
  unfold dataV at h
  split at h
  · cases h
    cases hx with
    | flat e => exact ⟨_, .flat rfl, rfl⟩
  · cases h
    cases hx with
    | slice e => exact ⟨_, .ptr e, data_run _ _ _ (by omega) ts ty w⟩
    | flat e => simp [flat] at e
  · cases h
theorem qBuiltin_sound (hR : Rel P σ A w) {b : Builtin} {c : Call} {a : Act} {F : T Value} {v : Value} {ty : TypeId} {cs : Array Bool} (hO : OK P σ F a c.args.toList) (h : qBuiltin b c P F A.heap = some v) :
    ∃ v', VR σ v v' ∧ (builtin b c.argTypes ty cs (c.args.map a.eval)).run P w = .ok (.value v') w := by
  obtain ⟨cal, ⟨args⟩, ⟨ats⟩⟩ := c
  rw [map_ops]
  unfold qBuiltin at h
  split at h
  · simp only [qOne, ob_some, lget_eq] at h
    obtain ⟨t, ht, x, hx, u, hu, h⟩ := h
    cases ats with
    | nil => simp at ht
    | cons t' ts => cases args with
      | nil => simp at hx
      | cons x' xs =>
        simp at ht hx; subst ht hx
        obtain ⟨hf, hr⟩ := lenA_run hR h (hO _ (by simp) u hu) ts ty (xs.map a.eval)
        exact ⟨v, .flat hf, by simp only [builtin, List.map_cons, Sem.run_bind, hr, Result.andThen_ok, Sem.run_pure]⟩
  · simp only [qOne, ob_some, lget_eq] at h
    obtain ⟨t, ht, x, hx, u, hu, h⟩ := h
    cases ats with
    | nil => simp at ht
    | cons t' ts => cases args with
      | nil => simp at hx
      | cons x' xs =>
        simp at ht hx; subst ht hx
        obtain ⟨hf, hr⟩ := capA_run hR h (hO _ (by simp) u hu) ts ty (xs.map a.eval)
        exact ⟨v, .flat hf, by simp only [builtin, List.map_cons, Sem.run_bind, hr, Result.andThen_ok, Sem.run_pure]⟩
  · simp only [qMinMax, ob_some, bt_some] at h
    obtain ⟨vs, hvs, hf, h⟩ := h
    have hv := opnds_run hO hvs
    rw [hv.of_flats hf]
    have := flatPure_run h
    refine ⟨v, .flat this.1, ?_⟩
    have h2 : (Builtin.min_ ⟨ats⟩ ty ⟨vs⟩).run P w = .ok v w := this.2 w
    simp only [builtin, Sem.run_bind, h2, Result.andThen_ok, Sem.run_pure]
  · simp only [qMinMax, ob_some, bt_some] at h
    obtain ⟨vs, hvs, hf, h⟩ := h
    have hv := opnds_run hO hvs
    rw [hv.of_flats hf]
    have := flatPure_run h
    refine ⟨v, .flat this.1, ?_⟩
    have h2 : (Builtin.max_ ⟨ats⟩ ty ⟨vs⟩).run P w = .ok v w := this.2 w
    simp only [builtin, Sem.run_bind, h2, Result.andThen_ok, Sem.run_pure]
  · unfold qData at h
    split at h
    · rename_i x hx
      simp only at hx
      subst hx
      rw [ob_some] at h
      obtain ⟨u, hu, h⟩ := h
      obtain ⟨u', h1, h2⟩ := dataV_run (P := P) h (hO _ (by simp) u hu) ⟨ats⟩ ty w
      exact ⟨u', h1, by simp only [builtin, List.map_cons, List.map_nil, Sem.run_bind, Sem.run_pure]; rw [h2]; rfl⟩
    · cases h
  · cases h
theorem evQ_sound (hR : Rel P σ A w) {o : Oper} {a : Act} {F : T Value} {v : Value} (hO : OK P σ F a o.op.operands.toList) (h : evQ o.op P F A.heap = some v) :
    ∃ v', VR σ v v' ∧ (execOp a.eval o).run P w = .ok (.value v') w := by
  obtain ⟨dst, op, ty, pos, after, guard⟩ := o
  cases op <;> simp only [evQ] at h <;> try (cases h; done)
  case move x => exact ⟨_, hO x (by simp [Op.operands]) v h, rfl⟩
  case assign x => exact ⟨_, hO x (by simp [Op.operands]) v h, rfl⟩
  case pick c x y =>
    simp only [qPick, ob_some, boolOf_some] at h
    obtain ⟨u, hu, b, rfl, h⟩ := h
    have hc := (hO c (by simp [Op.operands]) _ hu).of_flat rfl
    cases b with
    | true => exact ⟨_, hO x (by simp [Op.operands]) v h, by simp [execOp, hc, asBool]⟩
    | false => exact ⟨_, hO y (by simp [Op.operands]) v h, by simp [execOp, hc, asBool]⟩
  case load t x =>
    simp only [qLoad, ob_some] at h
    obtain ⟨u, hu, h⟩ := h
    obtain ⟨u', h1, h2, _⟩ := run_loadA hR h (hO x (by simp [Op.operands]) u hu)
    exact ⟨u', h1, by simp [execOp, h2]⟩
  case nilCheck x =>
    simp only [qNil, ob_some] at h
    obtain ⟨u, hu, h⟩ := h
    have hx := hO x (by simp [Op.operands]) u hu
    obtain ⟨rfl, h3⟩ := nilCheck_run h hx
    refine ⟨_, hx, ?_⟩
    rcases h3 with ⟨p, hp⟩ | ⟨f, b, c, hp⟩ <;> simp [execOp, hp]
  case build t ps =>
    simp only [qBuild, ob_some] at h
    obtain ⟨vs, hvs, h⟩ := h
    obtain ⟨ps⟩ := ps
    have hp := parts_run (a := a) (fun x hx => hO x (by simpa [Op.operands] using hx)) hvs
    obtain ⟨v', h1, h2⟩ := buildA_run h hp w
    refine ⟨v', h1, ?_⟩
    simp only [execOp, map_pairs, Sem.run_bind, h2, Result.andThen_ok, Sem.run_pure]
  case binOp op t x y yt =>
    simp only [qBin, ob_some] at h
    obtain ⟨u, hu, u2, hu2, h⟩ := h
    obtain ⟨hf, hr⟩ := binA_run h (hO x (by simp [Op.operands]) u hu) (hO y (by simp [Op.operands]) u2 hu2) w
    refine ⟨v, .flat hf, ?_⟩
    simp only [execOp, Sem.run_bind] at hr ⊢
    rw [hr]; rfl
  case unOp op t x =>
    simp only [qUn, ob_some, bt_some] at h
    obtain ⟨u, hu, hf, h⟩ := h
    have hx := (hO x (by simp [Op.operands]) _ hu).of_flat hf
    have := flatPure_run h
    exact ⟨v, .flat this.1, by simp [execOp, hx, this.2 w]⟩
  case convert s d x =>
    simp only [qConv, ob_some] at h
    obtain ⟨u, hu, h⟩ := h
    have hx := hO x (by simp [Op.operands]) _ hu
    split at h
    · have hx := hx.of_flat rfl
      have := fun k => convInt_run (k := k) h w
      exact ⟨v, .flat (this .i64).1, by simp only [execOp, hx, Sem.run_bind, (this _).2, Result.andThen_ok, Sem.run_pure]⟩
    · rw [ob_some] at h
      obtain ⟨p, rfl, h⟩ := h
      obtain ⟨u', h1, h2⟩ := ptrConv_run hR h hx
      exact ⟨u', h1, by simp only [execOp, Sem.run_bind, h2, Result.andThen_ok, Sem.run_pure]⟩
    · cases h
  case makeInterface t x =>
    simp only [qIface, ob_some, bt_some, Option.some.injEq, bnot_eq] at h
    obtain ⟨u, hu, d, hd, hi, hlt, rfl⟩ := h
    refine ⟨_, .iface hlt (hO x (by simp [Op.operands]) _ hu), ?_⟩
    simp only [execOp, Instr.makeInterface, Sem.run_bind, run_under hd, Result.andThen_ok]
    cases d <;> first | (simp [ifaceD] at hi; done) | rfl
  case makeFunc fn f c =>
    simp only [qFunc, ob_some, Option.some.injEq] at h
    obtain ⟨vf, hf, vc, hc, rfl⟩ := h
    obtain ⟨f⟩ := f; obtain ⟨c⟩ := c
    have h1 := opnds_run (a := a) (fun x hx => hO x (by simp [Op.operands]; exact .inl hx)) hf
    have h2 := opnds_run (a := a) (fun x hx => hO x (by simp [Op.operands]; exact .inr hx)) hc
    exact ⟨_, .func h1 h2, by simp [execOp, Instr.makeFunc]⟩
  case slice t x lo hi mx =>
    simp only [qSlice, ob_some] at h
    obtain ⟨u, hu, lo', hlo, hi', hhi, mx', hmx, h⟩ := h
    obtain ⟨u', h1, h2⟩ := sliceA_run hR h (hO x (by simp [Op.operands]) u hu) (optOp_run (fun x hx => hO x (by simp at hx; simp [Op.operands, hx])) hlo) (optOp_run (fun x hx => hO x (by simp at hx; simp [Op.operands, hx])) hhi) (optOp_run (fun x hx => hO x (by simp at hx; simp [Op.operands, hx])) hmx)
    exact ⟨u', h1, by simp only [execOp, Sem.run_bind, h2, Result.andThen_ok, Sem.run_pure]⟩
  case sliceToArrayPointer t x =>
    simp only [qArr, ob_some, arrayT_some] at h
    obtain ⟨⟨n, e⟩, ht, u, hu, h⟩ := h
    have hx := hO x (by simp [Op.operands]) u hu
    split at h
    · simp only [ob_some, bt_some, bleIff, Option.some.injEq] at h
      obtain ⟨p, rfl, hle, rfl⟩ := h
      cases hE : a.eval x <;> rw [hE] at hx <;> cases hx
      · rename_i e1; simp [flat] at e1
      · rename_i i b d o e1
        refine ⟨_, .ptr e1, ?_⟩
        simp only at hle ht
        simp only [execOp, hE, Instr.arrayAt, Sem.run_bind, run_under ht, Result.andThen_ok]
        rw [if_neg (by omega)]
        rfl
    · cases h
  case fieldAddr s x f =>
    simp only [qFieldAddr, ob_some] at h
    obtain ⟨u, hu, h⟩ := h
    obtain ⟨u', h1, h2⟩ := fieldAddr_run h (hO x (by simp [Op.operands]) u hu) w
    exact ⟨u', h1, by simp only [execOp, Sem.run_bind, h2, Result.andThen_ok, Sem.run_pure]⟩
  case field t x f =>
    simp only [qField, ob_some] at h
    obtain ⟨u, hu, h⟩ := h
    obtain ⟨u', h1, h2⟩ := field_run h (hO x (by simp [Op.operands]) u hu) w
    exact ⟨u', h1, by simp only [execOp, Sem.run_bind, h2, Result.andThen_ok, Sem.run_pure]⟩
  case indexAddr t x i =>
    simp only [qIndexAddr, ob_some] at h
    obtain ⟨u, hu, k, hk, h⟩ := h
    obtain ⟨u', h1, h2⟩ := indexAddr_run h (hO x (by simp [Op.operands]) u hu) (hO i (by simp [Op.operands]) k hk) w
    exact ⟨u', h1, by simp only [execOp, Sem.run_bind, h2, Result.andThen_ok, Sem.run_pure]⟩
  case index t x i =>
    simp only [qIndex, ob_some] at h
    obtain ⟨u, hu, k, hk, h⟩ := h
    obtain ⟨u', h1, h2⟩ := index_run h (hO x (by simp [Op.operands]) u hu) (hO i (by simp [Op.operands]) k hk) w
    exact ⟨u', h1, by simp only [execOp, Sem.run_bind, h2, Result.andThen_ok, Sem.run_pure]⟩
  case lookup t x k ok =>
    simp only [qLookup, ob_some] at h
    obtain ⟨u, hu, kv, hk, h⟩ := h
    obtain ⟨u', h1, h2⟩ := lookupA_run hR h (hO x (by simp [Op.operands]) u hu) (hO k (by simp [Op.operands]) kv hk)
    exact ⟨u', h1, by simp only [execOp, Sem.run_bind, h2, Result.andThen_ok, Sem.run_pure]⟩
  case extract x i =>
    simp only [qExtract, ob_some, tupV_some, lget_eq] at h
    obtain ⟨u, hu, vs, rfl, h⟩ := h
    obtain ⟨c', hc, he⟩ := (hO x (by simp [Op.operands]) _ hu).tuple_inv
    obtain ⟨v', hv, hr⟩ := hc.get h
    refine ⟨v', hr, ?_⟩
    have : (⟨c'⟩ : Array Value)[i]? = some v' := by rw [← Array.getElem?_toList]; exact hv
    simp [execOp, he, Instr.extract, this]
  case call c =>
    obtain ⟨cal, args, ats⟩ := c
    cases cal with
    | builtin b =>
      have h : qBuiltin b ⟨.builtin b, args, ats⟩ P F A.heap = some v := h
      obtain ⟨v', h1, h2⟩ := qBuiltin_sound hR (ty := ty) (cs := args.map fun | .const _ => true | _ => false) (fun x hx => hO x (by simp [Op.operands, Call.operands]; simpa using hx)) h
      refine ⟨v', h1, ?_⟩
      simp only [execOp, resolve, Sem.run_bind, Sem.run_pure, Result.andThen_ok, invoke]
      exact h2
    | _ => cases h
end Go.Ev
end

/- The evaluator: how the memory changes. -/
section
set_option linter.unusedSectionVars false
namespace Go.Ev
variable {P : Program} {σ σ' : Sg} {A : AW} {w w' : World} [Frozen P]
theorem ER.sub (h : Sub σ σ') : ∀ {l l' : List MapEntry}, ER σ l l' → ER σ' l l'
  | _, _, .nil => .nil
  | _, _, .cons h1 h2 h3 h4 h5 => .cons h1 h2 (h3.sub h) h4 (h5.sub h)
theorem RowR.sub (h : Sub σ σ') {d : Nat} {c : List Value} {e : TypeId} {m : Md} {c' : Array Value} {fz : Nat × Nat} (k : RowR P σ d c e m c' fz) : RowR P σ' d c e m c' fz := by
  obtain ⟨cs, x, h1, h2, h3⟩ := k.cells
  exact ⟨⟨cs, x, h1, h2.sub h, h3⟩, k.exact_, k.cap, k.free⟩
theorem OR.sub (h : Sub σ σ') {d : Nat} {o : AO} {x : Obj} (k : OR P σ d o x) : OR P σ' d o x := by
  unfold OR at k ⊢
  split at k
  · exact ⟨k.1, k.2.sub h⟩
  · exact ⟨k.1, k.2.sub h⟩
  · exact k.elim
theorem heap_put (i : Nat) (o : AO) (j : Nat) : (A.put i o).heap.get j = if j = i then some o else A.heap.get j := get_set o A.heap i j
theorem heap_add (o : AO) (j : Nat) : (A.add o).heap.get j = if j = A.next then some o else A.heap.get j := get_set o A.heap A.next j
theorem Rel.upd (hR : Rel P σ A w) {i b d : Nat} {o o2 : AO} {x : Obj} (hs : σ i = some (b, d)) (hg : A.heap.get i = some o) (ho : mayW o = true)
    (hx : w'.heap[b]? = some x) (hor : OR P σ d o2 x) (hoth : ∀ k, k ≠ b → w'.heap[k]? = w.heap[k]?) (hsz : w'.heap.size = w.heap.size) (h1 : w'.os = w.os) (h2 : w'.tape = w.tape) (h3 : w'.output = w.output) :
    Rel P σ (A.put i o2) w' ∧ Step σ A w σ (A.put i o2) w' := by
  have hl := live_of_mayW ho
  have hin : i < A.next := Nat.lt_of_not_le fun hle => by rw [hR.lim i hle] at hs; cases hs
  refine hR.both ⟨⟨?_, ?_, hR.lim, hR.glob, fun j hj => by rw [heap_put, if_neg (by intro e; subst e; exact Nat.lt_irrefl _ (Nat.lt_of_lt_of_le hin hj))]; exact hR.top j hj⟩, ⟨fun _ _ => rfl, Nat.le_refl _, h1, h2, h3, by omega, ?_, ?_, ?_, ?_⟩⟩
  · intro j b' d' oj hj hgj hlj
    rw [heap_put] at hgj
    split at hgj
    · rename_i e; subst e; cases hgj
      rw [hs] at hj; cases hj
      exact ⟨x, hx, hor⟩
    · rename_i hne
      obtain ⟨y, hy, hor'⟩ := hR.obj j b' d' oj hj hgj hlj
      refine ⟨y, ?_, hor'⟩
      rw [hoth b' (fun e => by subst e; exact hne (hR.inj j i b' d' d oj o hj hs hgj hg hlj hl (by rw [ho, Bool.or_true])))]
      exact hy
  · intro j k b' d1 d2 oj ok hj hk hgj hgk hlj hlk hjk
    rw [heap_put] at hgj hgk
    split at hgj <;> split at hgk
    · simp_all
    · rename_i e _; subst e; exact hR.inj _ _ b' d1 d2 o ok hj hk hg hgk hl hlk (by rw [ho, Bool.true_or])
    · rename_i _ e; subst e; exact hR.inj _ _ b' d1 d2 oj o hj hk hgj hg hlj hl (by rw [ho, Bool.or_true])
    · exact hR.inj _ _ b' d1 d2 oj ok hj hk hgj hgk hlj hlk hjk
  · intro k _ hn
    exact hoth k (fun e => hn (by subst e; exact ⟨i, d, o, hs, hg, ho⟩))
  · rintro k _ ⟨j, d', oj, hj, hgj, hw⟩
    rw [heap_put] at hgj
    split at hgj
    · rename_i e; subst e; rw [hs] at hj; cases hj; exact ⟨j, d, o, hs, hg, ho⟩
    · exact ⟨j, d', oj, hj, hgj, hw⟩
  · intro j b' d' oj hle hj _ _ _
    rw [hR.lim j hle] at hj; cases hj
  · intro j oj _ hgj hlj
    rw [heap_put] at hgj
    split at hgj
    · rename_i e; subst e; exact ⟨o, hg, hl⟩
    · exact ⟨oj, hgj, hlj⟩
def ext (σ : Sg) (i : Nat) (p : Nat × Nat) : Sg := fun j => if j = i then some p else σ j
theorem ext_self (i : Nat) (p : Nat × Nat) : ext σ i p i = some p := if_pos rfl
theorem ext_other {i j : Nat} (p : Nat × Nat) (h : j ≠ i) : ext σ i p j = σ j := if_neg h
theorem sub_ext {i : Nat} (p : Nat × Nat) (h : σ i = none) : Sub σ (ext σ i p) := fun j q hq => by
  by_cases e : j = i
  · subst e; rw [h] at hq; cases hq
  · rw [ext_other p e]; exact hq
theorem Rel.new (hR : Rel P σ A w) {o : AO} {x : Obj} {d : Nat} (hh : w'.heap = w.heap.push x) (hor : OR P σ d o x) (h1 : w'.os = w.os) (h2 : w'.tape = w.tape) (h3 : w'.output = w.output) :
    Rel P (ext σ A.next (w.heap.size, d)) (A.add o) w' ∧ Step σ A w (ext σ A.next (w.heap.size, d)) (A.add o) w' := by
  have hn := hR.lim A.next (Nat.le_refl _)
  have hsub := sub_ext (w.heap.size, d) hn
  have hold : ∀ k, k < w.heap.size → w'.heap[k]? = w.heap[k]? := fun k hk => by rw [hh, Array.getElem?_push_lt hk, Array.getElem?_eq_getElem hk]
  have hnew : w'.heap[w.heap.size]? = some x := by rw [hh]; simp
  have hlt : ∀ {k y}, w.heap[k]? = some y → k < w.heap.size := fun {k y} h => (Array.getElem?_eq_some_iff.1 h).1
  have hnone : ∀ i d' o', σ i = some (w.heap.size, d') → A.heap.get i = some o' → live o' = true → False := fun i d' o' hi hg hl => by
    obtain ⟨y, hy, _⟩ := hR.obj i _ d' o' hi hg hl
    exact Nat.lt_irrefl _ (hlt hy)
  refine hR.both ⟨⟨?_, ?_, ?_, ?_, fun j hj => by have hj : A.next + 1 ≤ j := hj; rw [heap_add, if_neg (by omega)]; exact hR.top j (by omega)⟩, ⟨?_, Nat.le_succ _, h1, h2, h3, by rw [hh]; simp, fun k hk _ => hold k hk, ?_, ?_, ?_⟩⟩
  · intro j b' d' oj hj hgj hlj
    rw [heap_add] at hgj
    by_cases e : j = A.next
    · subst e; rw [if_pos rfl] at hgj; cases hgj
      rw [ext_self] at hj; cases hj
      exact ⟨x, hnew, hor.sub hsub⟩
    · rw [if_neg e] at hgj; rw [ext_other _ e] at hj
      obtain ⟨y, hy, hor'⟩ := hR.obj j b' d' oj hj hgj hlj
      exact ⟨y, by rw [hold _ (hlt hy)]; exact hy, hor'.sub hsub⟩
  · intro j k b' d1 d2 oj ok hj hk hgj hgk hlj hlk hjk
    rw [heap_add] at hgj hgk
    by_cases e : j = A.next <;> by_cases e2 : k = A.next
    · rw [e, e2]
    · subst e; rw [ext_self] at hj; cases hj; rw [ext_other _ e2] at hk; rw [if_neg e2] at hgk; exact (hnone k d2 ok hk hgk hlk).elim
    · subst e2; rw [ext_self] at hk; cases hk; rw [ext_other _ e] at hj; rw [if_neg e] at hgj; exact (hnone j d1 oj hj hgj hlj).elim
    · rw [ext_other _ e] at hj; rw [ext_other _ e2] at hk; rw [if_neg e] at hgj; rw [if_neg e2] at hgk
      exact hR.inj _ _ b' d1 d2 oj ok hj hk hgj hgk hlj hlk hjk
  · intro i hi
    have hi : A.next + 1 ≤ i := hi
    rw [ext_other _ (by omega)]
    exact hR.lim i (by omega)
  · intro g hg
    rw [ext_other _ (fun e => by have := hR.glob g hg; rw [e, hn] at this; cases this)]
    exact hR.glob g hg
  · intro i hi; exact ext_other _ (by omega)
  · rintro k hk ⟨j, d', oj, hj, hgj, hw⟩
    rw [heap_add] at hgj
    by_cases e : j = A.next
    · subst e; rw [ext_self] at hj; cases hj; exact (Nat.lt_irrefl _ hk).elim
    · rw [if_neg e] at hgj; rw [ext_other _ e] at hj; exact ⟨j, d', oj, hj, hgj, hw⟩
  · intro i b' d' oi hle hi hgi hli hb
    by_cases e : i = A.next
    · subst e; rw [ext_self] at hi; cases hi; exact (Nat.lt_irrefl _ hb).elim
    · rw [ext_other _ e, hR.lim i hle] at hi; cases hi
  · intro i oi hi hgi hli
    rw [heap_add, if_neg (by omega)] at hgi
    exact ⟨oi, hgi, hli⟩
theorem Rel.kill (hR : Rel P σ A w) {i : Nat} (hin : i < A.next) : Rel P σ (A.put i .dead) w ∧ Step σ A w σ (A.put i .dead) w := by
  refine hR.both ⟨⟨?_, ?_, hR.lim, hR.glob, fun j hj => by rw [heap_put, if_neg (by intro e; subst e; exact Nat.lt_irrefl _ (Nat.lt_of_lt_of_le hin hj))]; exact hR.top j hj⟩, ⟨fun _ _ => rfl, Nat.le_refl _, rfl, rfl, rfl, Nat.le_refl _, fun _ _ _ => rfl, ?_, ?_, ?_⟩⟩
  · intro j b' d' oj hj hgj hlj
    rw [heap_put] at hgj
    split at hgj
    · cases hgj; cases hlj
    · exact hR.obj j b' d' oj hj hgj hlj
  · intro j k b' d1 d2 oj ok hj hk hgj hgk hlj hlk hjk
    rw [heap_put] at hgj hgk
    split at hgj
    · cases hgj; cases hlj
    · split at hgk
      · cases hgk; cases hlk
      · exact hR.inj _ _ b' d1 d2 oj ok hj hk hgj hgk hlj hlk hjk
  · rintro k _ ⟨j, d', oj, hj, hgj, hw⟩
    rw [heap_put] at hgj
    split at hgj
    · cases hgj; cases hw
    · exact ⟨j, d', oj, hj, hgj, hw⟩
  · intro j b' d' oj hle hj _ _ _
    rw [hR.lim j hle] at hj; cases hj
  · intro j oj _ hgj hlj
    rw [heap_put] at hgj
    split at hgj
    · cases hgj; cases hlj
    · exact ⟨oj, hgj, hlj⟩
theorem Rel.move (hR : Rel P σ A w) {i b d d2 : Nat} {o o2 : AO} {x : Obj} (hs : σ i = some (b, d)) (hg : A.heap.get i = some o) (ho : mayW o = true)
    (hx : w'.heap[b]? = some x) (hor : OR P σ d2 o2 x) (hoth : ∀ k, k ≠ b → w'.heap[k]? = w.heap[k]?) (hsz : w'.heap.size = w.heap.size) (h1 : w'.os = w.os) (h2 : w'.tape = w.tape) (h3 : w'.output = w.output) :
    Rel P (ext σ A.next (b, d2)) ((A.put i .dead).add o2) w' ∧ Step σ A w (ext σ A.next (b, d2)) ((A.put i .dead).add o2) w' := by
  have hn := hR.lim A.next (Nat.le_refl _)
  have hsub := sub_ext (b, d2) hn
  have hl := live_of_mayW ho
  have hga : ∀ j, ((A.put i .dead).add o2).heap.get j = if j = A.next then some o2 else if j = i then some .dead else A.heap.get j := fun j => by rw [heap_add, heap_put]; rfl
  have hin : i ≠ A.next := fun e => by rw [e, hn] at hs; cases hs
  have hoth' : ∀ j dj oj, j ≠ i → σ j = some (b, dj) → A.heap.get j = some oj → live oj = true → False := fun j dj oj hne hj hgj hlj => hne (hR.inj j i b dj d oj o hj hs hgj hg hlj hl (by rw [ho, Bool.or_true]))
  have hlt : i < A.next := Nat.lt_of_not_le fun hle => by rw [hR.lim i hle] at hs; cases hs
  refine hR.both ⟨⟨?_, ?_, ?_, ?_, fun j hj => by have hj : A.next + 1 ≤ j := hj; rw [hga, if_neg (by omega), if_neg (by omega)]; exact hR.top j (by omega)⟩, ⟨?_, Nat.le_succ _, h1, h2, h3, by omega, ?_, ?_, ?_, ?_⟩⟩
  · intro j b' d' oj hj hgj hlj
    rw [hga] at hgj
    by_cases e : j = A.next
    · subst e; rw [if_pos rfl] at hgj; cases hgj
      rw [ext_self] at hj; cases hj
      exact ⟨x, hx, hor.sub hsub⟩
    · rw [if_neg e] at hgj; rw [ext_other _ e] at hj
      split at hgj
      · cases hgj; cases hlj
      · rename_i hne
        obtain ⟨y, hy, hor'⟩ := hR.obj j b' d' oj hj hgj hlj
        exact ⟨y, by rw [hoth _ (fun e => by subst e; exact hoth' j d' oj hne hj hgj hlj)]; exact hy, hor'.sub hsub⟩
  · intro j k b' d1 d2' oj ok hj hk hgj hgk hlj hlk hjk
    rw [hga] at hgj hgk
    by_cases e : j = A.next <;> by_cases e2 : k = A.next
    · rw [e, e2]
    · subst e; rw [ext_self] at hj; cases hj; rw [ext_other _ e2] at hk; rw [if_neg e2] at hgk
      split at hgk
      · cases hgk; cases hlk
      · rename_i hne; exact (hoth' k d2' ok hne hk hgk hlk).elim
    · subst e2; rw [ext_self] at hk; cases hk; rw [ext_other _ e] at hj; rw [if_neg e] at hgj
      split at hgj
      · cases hgj; cases hlj
      · rename_i hne; exact (hoth' j d1 oj hne hj hgj hlj).elim
    · rw [ext_other _ e] at hj; rw [ext_other _ e2] at hk; rw [if_neg e] at hgj; rw [if_neg e2] at hgk
      split at hgj
      · cases hgj; cases hlj
      · split at hgk
        · cases hgk; cases hlk
        · exact hR.inj _ _ b' d1 d2' oj ok hj hk hgj hgk hlj hlk hjk
  · intro k hk
    have hk : A.next + 1 ≤ k := hk
    rw [ext_other _ (by omega)]
    exact hR.lim k (by omega)
  · intro g hgg
    rw [ext_other _ (fun e => by have := hR.glob g hgg; rw [e, hn] at this; cases this)]
    exact hR.glob g hgg
  · intro k hk; exact ext_other _ (by omega)
  · intro k _ hnw
    exact hoth k (fun e => hnw (by subst e; exact ⟨i, d, o, hs, hg, ho⟩))
  · rintro k hk ⟨j, d', oj, hj, hgj, hw⟩
    rw [hga] at hgj
    by_cases e : j = A.next
    · subst e; rw [ext_self] at hj; cases hj; exact ⟨i, d, o, hs, hg, ho⟩
    · rw [if_neg e] at hgj; rw [ext_other _ e] at hj
      split at hgj
      · cases hgj; cases hw
      · exact ⟨j, d', oj, hj, hgj, hw⟩
  · intro j b' d' oj hle hj hgj hlj hb
    by_cases e : j = A.next
    · subst e; rw [ext_self] at hj; cases hj; exact ⟨i, d, o, hs, hg, ho⟩
    · rw [ext_other _ e, hR.lim j hle] at hj; cases hj
  · intro j oj hj hgj hlj
    rw [hga, if_neg (by omega)] at hgj
    split at hgj
    · cases hgj; cases hlj
    · exact ⟨oj, hgj, hlj⟩
theorem Rel.lt (hR : Rel P σ A w) {i : Nat} {p : Nat × Nat} (h : σ i = some p) : i < A.next := Nat.lt_of_not_le fun hle => by rw [hR.lim i hle] at h; cases h
theorem cellsStored {b o : Nat} {e : TypeId} {fz : Nat × Nat} : ∀ (vs : List Value) (k : Nat) (c : Array Value) (w : World), w.heap[b]? = some (.cells c e fz) → o + k + vs.length ≤ c.size → (∀ v ∈ vs, v.oneCell = true) → unfrozen c.size fz →
    ∃ w', (storeCells ⟨b, o, none⟩ vs k).run P w = .ok () w' ∧ w'.heap[b]? = some (.cells ⟨c.toList.take (o + k) ++ (vs ++ c.toList.drop (o + k + vs.length))⟩ e fz) ∧ (∀ j, j ≠ b → w'.heap[j]? = w.heap[j]?) ∧
      w'.heap.size = w.heap.size ∧ w'.os = w.os ∧ w'.tape = w.tape ∧ w'.output = w.output := by
  intro vs
  induction vs with
  | nil => intro k c w hw _ _ _; exact ⟨w, rfl, by simpa using hw, fun _ _ => rfl, rfl, rfl, rfl, rfl⟩
  | cons v vs ih =>
    intro k c w hw hle h1 hfz
    have hlen : o + k < c.size := by simp at hle; omega
    have hcell : w.cell? ⟨b, o + k, none⟩ = some c[o + k] := cell_of hw (by simp [hlen])
    have hfr : w.frozen? ⟨b, o + k, none⟩ = false := by
      have := hfz (o + k) hlen
      simp only [World.frozen?, hw]
      simpa using this
    have hone : v.oneCell = true := h1 v (by simp)
    have hst : (w.setCell ⟨b, o + k, none⟩ v).heap[b]? = some (.cells (c.setIfInBounds (o + k) v) e fz) := by simp [World.setCell, Array.getElem?_modify, hw]
    have hoth : ∀ j, j ≠ b → (w.setCell ⟨b, o + k, none⟩ v).heap[j]? = w.heap[j]? := fun j hj => heap_setCell_other w _ j v hj
    obtain ⟨w', hr, h2, h3, h4, h5, h6, h7⟩ := ih (k + 1) (c.setIfInBounds (o + k) v) (w.setCell ⟨b, o + k, none⟩ v) hst (by simp at hle ⊢; omega) (fun x hx => h1 x (by simp [hx])) (by simpa using hfz)
    refine ⟨w', ?_, ?_, fun j hj => (h3 j hj).trans (hoth j hj), by rw [h4]; simp, by rw [h5]; rfl, by rw [h6]; rfl, by rw [h7]; rfl⟩
    · have hgo : (store ((⟨b, o, none⟩ : Addr).add k) v).run P w = .ok () (w.setCell ⟨b, o + k, none⟩ v) := by
        rw [add_plain]
        unfold store
        cases v <;> first | (cases hone; done) | (simp only [Sem.run, hcell, hfr]; rfl)
      simp only [storeCells, Sem.run_bind, hgo, Result.andThen_ok]
      exact hr
    · rw [h2]
      simp only [Array.toList_setIfInBounds]
      have hlt : o + k < c.toList.length := by simpa using hlen
      have ht : (c.toList.set (o + k) v).take (o + k + 1) = c.toList.take (o + k) ++ [v] := by
        rw [List.take_add_one, List.take_set_of_le (Nat.le_refl _), List.getElem?_set_self hlt]
        rfl
      rw [show o + (k + 1) = o + k + 1 by omega, ht, List.drop_set_of_lt (by omega)]
      simp only [List.length_cons, List.append_assoc, List.cons_append, List.nil_append]
      rw [show o + k + 1 + vs.length = o + k + (vs.length + 1) by omega]
theorem RowR.over {d o : Nat} {c xs c2 xs' : List Value} {e : TypeId} {m : Md} {c' : Array Value} {fz : Nat × Nat} (h : RowR P σ d c e m c' fz) (hx : VRL σ xs xs') (ho : lover xs o c = some c2) :
    o + xs'.length ≤ c'.size ∧ RowR P σ d c2 e m ⟨c'.toList.take o ++ (xs' ++ c'.toList.drop (o + xs'.length))⟩ fz := by
  obtain ⟨rfl, hle⟩ := lover_some _ _ _ _ ho
  obtain ⟨cs, x, ec, hc, hr⟩ := h.cells
  have hl := hc.length
  have hxl := hx.length
  have hsz : c'.size = cs.length + x.length := by have := congrArg List.length ec; simpa using this
  have hle' : o + xs'.length ≤ c'.size := by omega
  refine ⟨hle', ⟨⟨cs.take o ++ (xs' ++ cs.drop (o + xs'.length)), x, ?_, ?_, hr⟩, h.exact_, ?_, ?_⟩⟩
  · show c'.toList.take o ++ (xs' ++ c'.toList.drop (o + xs'.length)) = _
    rw [ec, List.take_append_of_le_length (by omega), List.drop_append_of_le_length (by omega)]
    simp [List.append_assoc]
  · rw [hxl]; exact (hc.take o).append (hx.append (hc.drop _))
  · intro rc hm
    intro i hi
    rw [← h.cap rc hm i hi]
    simp [List.length_append]
    omega
  · intro hm
    have := h.free hm
    have e2 : (⟨c'.toList.take o ++ (xs' ++ c'.toList.drop (o + xs'.length))⟩ : Array Value).size = c'.size := by simp; omega
    rw [e2]; exact this
end Go.Ev
end
