/- The evaluator: every quiet operation gives what the model gives. -/
import Derived.Test.YtamjbnfmpfgjcaaGreatDoorEvI
namespace Go.Ev
variable {P : Program} {σ : Sg} {A : AW} {w : World}

/-- The operands that are told relate. -/
def OK (P : Program) (σ : Sg) (F : T Value) (a : Act) (xs : List Operand) : Prop := ∀ x ∈ xs, ∀ v, opnd P F x = some v → VR σ v (a.eval x)
theorem opnds_run {F : T Value} {a : Act} : ∀ {xs : List Operand} {vs : List Value}, OK P σ F a xs → opnds P F xs = some vs → VRL σ vs (xs.map a.eval) := by
  intro xs
  induction xs with
  | nil => intro vs _ h; have := omap_nil.1 h; subst this; exact .nil
  | cons x xs ih =>
    intro vs hO h
    obtain ⟨y, ys, h1, h2, rfl⟩ := omap_cons.1 h
    exact .cons (hO x (by simp) y h1) (ih (fun x hx => hO x (by simp [hx])) h2)
theorem parts_run {F : T Value} {a : Act} : ∀ {xs : List (Nat × Operand)} {vs : List (Nat × Value)}, OK P σ F a (xs.map (·.2)) → partsA P F xs = some vs → PR σ vs (xs.map fun p => (p.1, a.eval p.2)) := by
  intro xs
  induction xs with
  | nil => intro vs _ h; have := omap_nil.1 h; subst this; exact .nil
  | cons x xs ih =>
    intro vs hO h
    obtain ⟨y, ys, h1, h2, rfl⟩ := omap_cons.1 h
    simp only [ob_some, Option.some.injEq] at h1
    obtain ⟨v, hv, rfl⟩ := h1
    exact .cons (hO x.2 (by simp) v hv) (ih (fun x hx => hO x (by simp at hx ⊢; exact .inr hx)) h2)
theorem optOp_run {F : T Value} {a : Act} {x : Option Operand} {v : Option Value} (hO : OK P σ F a x.toList) (h : optOp P F x = some v) : OVR σ v (x.map a.eval) := by
  cases x with
  | none => cases h; exact .none
  | some x =>
    have h' : (ob (opnd P F x) fun v => some (some v)) = some v := h
    simp only [ob_some, Option.some.injEq] at h'
    obtain ⟨u, hu, rfl⟩ := h'
    exact .some (hO x (by simp) u hu)
theorem nilCheck_run {x x' u : Value} (h : nilCheckA x = some u) (hx : VR σ x x') : u = x ∧ ((∃ p, x' = .pointer (some p)) ∨ ∃ f a c, x' = .func (.func f) a c) := by
  unfold nilCheckA at h
  split at h
  · cases h; rw [hx.ptr_plain] at hx; obtain ⟨b, d, _, rfl⟩ := hx.ptr_inv; exact ⟨rfl, .inl ⟨_, rfl⟩⟩
  · cases h
    cases hx with
    | func _ _ => exact ⟨rfl, .inr ⟨_, _, _, rfl⟩⟩
    | flat e => simp [flat] at e
  · cases h
theorem map_pairs (a : Act) (ps : List (Nat × Operand)) : (⟨ps⟩ : Array (Nat × Operand)).map (fun (i, x) => (i, a.eval x)) = ⟨ps.map fun p => (p.1, a.eval p.2)⟩ := by
  have : (⟨ps⟩ : Array (Nat × Operand)) = ps.toArray := rfl
  rw [this, List.map_toArray]
theorem map_ops (a : Act) (xs : List Operand) : (⟨xs⟩ : Array Operand).map a.eval = ⟨xs.map a.eval⟩ := by
  have : (⟨xs⟩ : Array Operand) = xs.toArray := rfl
  rw [this, List.map_toArray]
theorem data_run (a : Addr) (l c : Nat) (hc : c ≠ 0) (ts : Array TypeId) (ty : TypeId) (w : World) : (Builtin.unsafeSliceData_ ts ty #[.slice (some a) l c]).run P w = .ok (.pointer (some a)) w := by
  show (if c ≠ 0 then (pure (.pointer (some a)) : Sem Value) else _).run P w = _
  rw [if_pos hc]; rfl
theorem dataV_run {x x' u : Value} (h : dataV x = some u) (hx : VR σ x x') (ts : Array TypeId) (ty : TypeId) (w : World) : ∃ u', VR σ u u' ∧ (Builtin.unsafeSliceData_ ts ty #[x']).run P w = .ok u' w := by
  unfold dataV at h
  split at h
  · cases h
    cases hx with
    | flat e => exact ⟨_, .flat rfl, rfl⟩
  · cases h
    cases hx with
    | slice e => exact ⟨_, .ptr e, data_run _ _ _ (by omega) ts ty w⟩
    | flat e => simp [flat] at e
  · cases h
theorem qBuiltin_sound (hR : Rel P σ A w) {b : Builtin} {c : Call} {a : Act} {F : T Value} {v : Value} {ty : TypeId} {cs : Array Bool} (hO : OK P σ F a c.args.toList) (h : qBuiltin b c P F A.heap = some v) :
    ∃ v', VR σ v v' ∧ (builtin b c.argTypes ty cs (c.args.map a.eval)).run P w = .ok (.value v') w := by
  obtain ⟨cal, ⟨args⟩, ⟨ats⟩⟩ := c
  rw [map_ops]
  unfold qBuiltin at h
  split at h
  · simp only [qOne, ob_some, lget_eq] at h
    obtain ⟨t, ht, x, hx, u, hu, h⟩ := h
    cases ats with
    | nil => simp at ht
    | cons t' ts => cases args with
      | nil => simp at hx
      | cons x' xs =>
        simp at ht hx; subst ht hx
        obtain ⟨hf, hr⟩ := lenA_run hR h (hO _ (by simp) u hu) ts ty (xs.map a.eval)
        exact ⟨v, .flat hf, by simp only [builtin, List.map_cons, Sem.run_bind, hr, Result.andThen_ok, Sem.run_pure]⟩
  · simp only [qOne, ob_some, lget_eq] at h
    obtain ⟨t, ht, x, hx, u, hu, h⟩ := h
    cases ats with
    | nil => simp at ht
    | cons t' ts => cases args with
      | nil => simp at hx
      | cons x' xs =>
        simp at ht hx; subst ht hx
        obtain ⟨hf, hr⟩ := capA_run hR h (hO _ (by simp) u hu) ts ty (xs.map a.eval)
        exact ⟨v, .flat hf, by simp only [builtin, List.map_cons, Sem.run_bind, hr, Result.andThen_ok, Sem.run_pure]⟩
  · simp only [qMinMax, ob_some, bt_some] at h
    obtain ⟨vs, hvs, hf, h⟩ := h
    have hv := opnds_run hO hvs
    rw [hv.of_flats hf]
    have := flatPure_run h
    refine ⟨v, .flat this.1, ?_⟩
    have h2 : (Builtin.min_ ⟨ats⟩ ty ⟨vs⟩).run P w = .ok v w := this.2 w
    simp only [builtin, Sem.run_bind, h2, Result.andThen_ok, Sem.run_pure]
  · simp only [qMinMax, ob_some, bt_some] at h
    obtain ⟨vs, hvs, hf, h⟩ := h
    have hv := opnds_run hO hvs
    rw [hv.of_flats hf]
    have := flatPure_run h
    refine ⟨v, .flat this.1, ?_⟩
    have h2 : (Builtin.max_ ⟨ats⟩ ty ⟨vs⟩).run P w = .ok v w := this.2 w
    simp only [builtin, Sem.run_bind, h2, Result.andThen_ok, Sem.run_pure]
  · unfold qData at h
    split at h
    · rename_i x hx
      simp only at hx
      subst hx
      rw [ob_some] at h
      obtain ⟨u, hu, h⟩ := h
      obtain ⟨u', h1, h2⟩ := dataV_run (P := P) h (hO _ (by simp) u hu) ⟨ats⟩ ty w
      exact ⟨u', h1, by simp only [builtin, List.map_cons, List.map_nil, Sem.run_bind, Sem.run_pure]; rw [h2]; rfl⟩
    · cases h
  · cases h
theorem evQ_sound (hR : Rel P σ A w) {o : Oper} {a : Act} {F : T Value} {v : Value} (hO : OK P σ F a o.op.operands.toList) (h : evQ o.op P F A.heap = some v) :
    ∃ v', VR σ v v' ∧ (execOp a.eval o).run P w = .ok (.value v') w := by
  obtain ⟨dst, op, ty, pos, after, guard⟩ := o
  cases op <;> simp only [evQ] at h <;> try (cases h; done)
  case move x => exact ⟨_, hO x (by simp [Op.operands]) v h, rfl⟩
  case assign x => exact ⟨_, hO x (by simp [Op.operands]) v h, rfl⟩
  case pick c x y =>
    simp only [qPick, ob_some, boolOf_some] at h
    obtain ⟨u, hu, b, rfl, h⟩ := h
    have hc := (hO c (by simp [Op.operands]) _ hu).of_flat rfl
    cases b with
    | true => exact ⟨_, hO x (by simp [Op.operands]) v h, by simp [execOp, hc, asBool]⟩
    | false => exact ⟨_, hO y (by simp [Op.operands]) v h, by simp [execOp, hc, asBool]⟩
  case load t x =>
    simp only [qLoad, ob_some] at h
    obtain ⟨u, hu, h⟩ := h
    obtain ⟨u', h1, h2, _⟩ := run_loadA hR h (hO x (by simp [Op.operands]) u hu)
    exact ⟨u', h1, by simp [execOp, h2]⟩
  case nilCheck x =>
    simp only [qNil, ob_some] at h
    obtain ⟨u, hu, h⟩ := h
    have hx := hO x (by simp [Op.operands]) u hu
    obtain ⟨rfl, h3⟩ := nilCheck_run h hx
    refine ⟨_, hx, ?_⟩
    rcases h3 with ⟨p, hp⟩ | ⟨f, b, c, hp⟩ <;> simp [execOp, hp]
  case build t ps =>
    simp only [qBuild, ob_some] at h
    obtain ⟨vs, hvs, h⟩ := h
    obtain ⟨ps⟩ := ps
    have hp := parts_run (a := a) (fun x hx => hO x (by simpa [Op.operands] using hx)) hvs
    obtain ⟨v', h1, h2⟩ := buildA_run h hp w
    refine ⟨v', h1, ?_⟩
    simp only [execOp, map_pairs, Sem.run_bind, h2, Result.andThen_ok, Sem.run_pure]
  case binOp op t x y yt =>
    simp only [qBin, ob_some] at h
    obtain ⟨u, hu, u2, hu2, h⟩ := h
    obtain ⟨hf, hr⟩ := binA_run h (hO x (by simp [Op.operands]) u hu) (hO y (by simp [Op.operands]) u2 hu2) w
    refine ⟨v, .flat hf, ?_⟩
    simp only [execOp, Sem.run_bind] at hr ⊢
    rw [hr]; rfl
  case unOp op t x =>
    simp only [qUn, ob_some, bt_some] at h
    obtain ⟨u, hu, hf, h⟩ := h
    have hx := (hO x (by simp [Op.operands]) _ hu).of_flat hf
    have := flatPure_run h
    exact ⟨v, .flat this.1, by simp [execOp, hx, this.2 w]⟩
  case convert s d x =>
    simp only [qConv, ob_some] at h
    obtain ⟨u, hu, h⟩ := h
    have hx := hO x (by simp [Op.operands]) _ hu
    split at h
    · have hx := hx.of_flat rfl
      have := fun k => convInt_run (k := k) h w
      exact ⟨v, .flat (this .i64).1, by simp only [execOp, hx, Sem.run_bind, (this _).2, Result.andThen_ok, Sem.run_pure]⟩
    · rw [ob_some] at h
      obtain ⟨p, rfl, h⟩ := h
      obtain ⟨u', h1, h2⟩ := ptrConv_run hR h hx
      exact ⟨u', h1, by simp only [execOp, Sem.run_bind, h2, Result.andThen_ok, Sem.run_pure]⟩
    · cases h
  case makeInterface t x =>
    simp only [qIface, ob_some, bt_some, Option.some.injEq, bnot_eq] at h
    obtain ⟨u, hu, d, hd, hi, rfl⟩ := h
    refine ⟨_, .iface (hO x (by simp [Op.operands]) _ hu), ?_⟩
    simp only [execOp, Instr.makeInterface, Sem.run_bind, run_under hd, Result.andThen_ok]
    cases d <;> first | (simp [ifaceD] at hi; done) | rfl
  case makeFunc fn f c =>
    simp only [qFunc, ob_some, Option.some.injEq] at h
    obtain ⟨vf, hf, vc, hc, rfl⟩ := h
    obtain ⟨f⟩ := f; obtain ⟨c⟩ := c
    have h1 := opnds_run (a := a) (fun x hx => hO x (by simp [Op.operands]; exact .inl hx)) hf
    have h2 := opnds_run (a := a) (fun x hx => hO x (by simp [Op.operands]; exact .inr hx)) hc
    exact ⟨_, .func h1 h2, by simp [execOp, Instr.makeFunc]⟩
  case slice t x lo hi mx =>
    simp only [qSlice, ob_some] at h
    obtain ⟨u, hu, lo', hlo, hi', hhi, mx', hmx, h⟩ := h
    obtain ⟨u', h1, h2⟩ := sliceA_run hR h (hO x (by simp [Op.operands]) u hu) (optOp_run (fun x hx => hO x (by simp at hx; simp [Op.operands, hx])) hlo) (optOp_run (fun x hx => hO x (by simp at hx; simp [Op.operands, hx])) hhi) (optOp_run (fun x hx => hO x (by simp at hx; simp [Op.operands, hx])) hmx)
    exact ⟨u', h1, by simp only [execOp, Sem.run_bind, h2, Result.andThen_ok, Sem.run_pure]⟩
  case sliceToArrayPointer t x =>
    simp only [qArr, ob_some, arrayT_some] at h
    obtain ⟨⟨n, e⟩, ht, u, hu, h⟩ := h
    have hx := hO x (by simp [Op.operands]) u hu
    split at h
    · simp only [ob_some, bt_some, bleIff, Option.some.injEq] at h
      obtain ⟨p, rfl, hle, rfl⟩ := h
      cases hE : a.eval x <;> rw [hE] at hx <;> cases hx
      · rename_i e1; simp [flat] at e1
      · rename_i i b d o e1
        refine ⟨_, .ptr e1, ?_⟩
        simp only at hle ht
        simp only [execOp, hE, Instr.arrayAt, Sem.run_bind, run_under ht, Result.andThen_ok]
        rw [if_neg (by omega)]
        rfl
    · cases h
  case fieldAddr s x f =>
    simp only [qFieldAddr, ob_some] at h
    obtain ⟨u, hu, h⟩ := h
    obtain ⟨u', h1, h2⟩ := fieldAddr_run h (hO x (by simp [Op.operands]) u hu) w
    exact ⟨u', h1, by simp only [execOp, Sem.run_bind, h2, Result.andThen_ok, Sem.run_pure]⟩
  case field t x f =>
    simp only [qField, ob_some] at h
    obtain ⟨u, hu, h⟩ := h
    obtain ⟨u', h1, h2⟩ := field_run h (hO x (by simp [Op.operands]) u hu) w
    exact ⟨u', h1, by simp only [execOp, Sem.run_bind, h2, Result.andThen_ok, Sem.run_pure]⟩
  case indexAddr t x i =>
    simp only [qIndexAddr, ob_some] at h
    obtain ⟨u, hu, k, hk, h⟩ := h
    obtain ⟨u', h1, h2⟩ := indexAddr_run h (hO x (by simp [Op.operands]) u hu) (hO i (by simp [Op.operands]) k hk) w
    exact ⟨u', h1, by simp only [execOp, Sem.run_bind, h2, Result.andThen_ok, Sem.run_pure]⟩
  case index t x i =>
    simp only [qIndex, ob_some] at h
    obtain ⟨u, hu, k, hk, h⟩ := h
    obtain ⟨u', h1, h2⟩ := index_run h (hO x (by simp [Op.operands]) u hu) (hO i (by simp [Op.operands]) k hk) w
    exact ⟨u', h1, by simp only [execOp, Sem.run_bind, h2, Result.andThen_ok, Sem.run_pure]⟩
  case lookup t x k ok =>
    simp only [qLookup, ob_some] at h
    obtain ⟨u, hu, kv, hk, h⟩ := h
    obtain ⟨u', h1, h2⟩ := lookupA_run hR h (hO x (by simp [Op.operands]) u hu) (hO k (by simp [Op.operands]) kv hk)
    exact ⟨u', h1, by simp only [execOp, Sem.run_bind, h2, Result.andThen_ok, Sem.run_pure]⟩
  case extract x i =>
    simp only [qExtract, ob_some, tupV_some, lget_eq] at h
    obtain ⟨u, hu, vs, rfl, h⟩ := h
    obtain ⟨c', hc, he⟩ := (hO x (by simp [Op.operands]) _ hu).tuple_inv
    obtain ⟨v', hv, hr⟩ := hc.get h
    refine ⟨v', hr, ?_⟩
    have : (⟨c'⟩ : Array Value)[i]? = some v' := by rw [← Array.getElem?_toList]; exact hv
    simp [execOp, he, Instr.extract, this]
  case call c =>
    obtain ⟨cal, args, ats⟩ := c
    cases cal with
    | builtin b =>
      have h : qBuiltin b ⟨.builtin b, args, ats⟩ P F A.heap = some v := h
      obtain ⟨v', h1, h2⟩ := qBuiltin_sound hR (ty := ty) (cs := args.map fun | .const _ => true | _ => false) (fun x hx => hO x (by simp [Op.operands, Call.operands]; simpa using hx)) h
      refine ⟨v', h1, ?_⟩
      simp only [execOp, resolve, Sem.run_bind, Sem.run_pure, Result.andThen_ok, invoke]
      exact h2
    | _ => cases h
end Go.Ev
