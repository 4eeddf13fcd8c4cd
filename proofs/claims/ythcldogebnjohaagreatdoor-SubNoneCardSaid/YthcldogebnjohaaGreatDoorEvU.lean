/- The evaluator: code, calls: it is sound. -/
import Derived.Test.YthcldogebnjohaaGreatDoorEvS
import Derived.Scope
import Derived.Defers
set_option linter.unusedSectionVars false
namespace Go.Ev
variable {P : Program} {N : Nat} {call : Caller} [Frozen P]
def exOf : Ox → Exit
  | .normal => .normal
  | .exit i => .exit i
  | .ret => .ret
def Post (P : Program) [Frozen P] (N : Nat) (σ : Sg) (A : AW) (w : World) (p : Ox × St) (e : Exit) (a : Act) (w' : World) : Prop := e = exOf p.1 ∧ ∃ σ', SR P N σ' p.2 a w' ∧ Step σ A w σ' p.2.A w'
theorem iter_wp {f : Run} {c : Code} (hc : ∀ (s : St) (p : Ox × St) (σ : Sg) (a : Act) (w : World), SR P N σ s a w → f s = some p → c.wp P (Post P N σ s.A w p) a w) :
    ∀ (n : Nat) (s : St) (p : Ox × St) (σ : Sg) (a : Act) (w : World), SR P N σ s a w → iter n f s = some p → ∀ (b : Frame) (k : List Item) (cs : List Frame),
      ∃ e a' w', Post P N σ s.A w p e a' w' ∧ Arrives P (lone (b.at a (.code c :: .inLoop c :: k)) cs w) b k cs e a' w' := by
  intro n
  induction n with
  | zero => intro s p σ a w _ h; cases h
  | succ n ih =>
    intro s p σ a w hS h b k cs
    have h : (ob (f s) fun p => Ox.rec (iter n f p.2) (fun i => some (.exit i, p.2)) (some (.ret, p.2)) p.1) = some p := h
    rw [ob_some] at h
    obtain ⟨⟨x, s1⟩, h1, h2⟩ := h
    obtain ⟨e, a₁, w₁, ⟨he, σ1, hS1, hst⟩, harr⟩ := hc s (x, s1) σ a w hS h1 b (.inLoop c :: k) cs
    cases x with
    | normal =>
      have h2 : iter n f s1 = some p := h2
      obtain rfl : e = .normal := he
      obtain ⟨e2, a2, w2, ⟨he2, σ2, hS2, hst2⟩, harr2⟩ := ih s1 p σ1 a₁ w₁ hS1 h2 b k cs
      exact ⟨e2, a2, w2, ⟨he2, σ2, hS2, hst.trans hst2⟩, .of_steps (Steps.trans harr (.one step_inLoop)) harr2⟩
    | exit i =>
      have h2 : some (Ox.exit i, s1) = some p := h2
      cases h2
      obtain rfl : e = .exit i := he
      exact ⟨_, a₁, w₁, ⟨rfl, σ1, hS1, hst⟩, .pass (x := .inLoop c) rfl (fun _ _ => .inl (by simp [exOf])) harr⟩
    | ret =>
      have h2 : some (Ox.ret, s1) = some p := h2
      cases h2
      obtain rfl : e = .ret := he
      exact ⟨_, a₁, w₁, ⟨rfl, σ1, hS1, hst⟩, .pass (x := .inLoop c) rfl (fun _ _ => .inl (by simp [exOf])) harr⟩
theorem code_wp (hmix : P.follows .mixedOrders = true) (hcall : CallOK P call) (c : Code) : ∀ (s : St) (p : Ox × St) (σ : Sg) (a : Act) (w : World), SR P N σ s a w → evCode P call N c s = some p → c.wp P (Post P N σ s.A w p) a w := by
  induction c with
  | skip => intro s p σ a w hS h; have h : some (Ox.normal, s) = some p := h; cases h; exact wp_skip ⟨rfl, σ, hS, .refl hS.rel.lim⟩
  | label l => intro s p σ a w hS h; have h : some (Ox.normal, s) = some p := h; cases h; exact wp_label ⟨rfl, σ, hS, .refl hS.rel.lim⟩
  | exit id => intro s p σ a w hS h; have h : some (Ox.exit id, s) = some p := h; cases h; exact wp_exit ⟨rfl, σ, hS, .refl hS.rel.lim⟩
  | ret => intro s p σ a w hS h; have h : some (Ox.ret, s) = some p := h; cases h; exact wp_ret ⟨rfl, σ, hS, .refl hS.rel.lim⟩
  | goto l => intro s p σ a w hS h; cases h
  | refuse y => intro s p σ a w hS h; cases h
  | rangeFunc f ps x y _ _ => intro s p σ a w hS h; cases h
  | region id ops d =>
    intro s p σ a w hS h
    have h : cRegion P call N ops.toList d s = some p := h
    simp only [cRegion, ob_some, Option.some.injEq] at h
    obtain ⟨s', hq, rfl⟩ := h
    obtain ⟨ops⟩ := ops
    cases d with
    | false => exact region_wp hcall hS hq fun σ' a' w' h1 h2 => ⟨rfl, σ', h1, h2⟩
    | true => exact draw_wp hmix hcall hS hq fun σ' a' w' h1 h2 => ⟨rfl, σ', h1, h2⟩
  | seq x y ihx ihy =>
    intro s p σ a w hS h
    have h : cSeq (evCode P call N x) (evCode P call N y) s = some p := h
    simp only [cSeq, ob_some] at h
    obtain ⟨⟨o, s1⟩, h1, h2⟩ := h
    refine wp_seq (wp_mono (ihx s (o, s1) σ a w hS h1) ?_)
    rintro e a' w' ⟨rfl, σ1, hS1, hst⟩
    cases o with
    | normal =>
      refine wp_mono (ihy s1 p σ1 a' w' hS1 h2) ?_
      rintro e2 a2 w2 ⟨rfl, σ2, hS2, hst2⟩
      exact ⟨rfl, σ2, hS2, hst.trans hst2⟩
    | exit i =>
      have h2 : some (Ox.exit i, s1) = some p := h2
      cases h2
      exact ⟨rfl, σ1, hS1, hst⟩
    | ret =>
      have h2 : some (Ox.ret, s1) = some p := h2
      cases h2
      exact ⟨rfl, σ1, hS1, hst⟩
  | cond c x y ihx ihy =>
    intro s p σ a w hS h
    have h : cCond P c (evCode P call N x) (evCode P call N y) s = some p := h
    simp only [cCond, ob_some, boolOf_some] at h
    obtain ⟨v, hv, b, rfl, h⟩ := h
    have hc := (hS.fr.ok hS.rel.glob [c] c (by simp) _ hv).of_flat rfl
    refine wp_cond hc ?_
    cases b with
    | true => exact ihx s p σ a w hS h
    | false => exact ihy s p σ a w hS h
  | block id x ih =>
    intro s p σ a w hS h
    have h : cBlock id (evCode P call N x) s = some p := h
    simp only [cBlock, ob_some] at h
    obtain ⟨⟨o, s1⟩, h1, h2⟩ := h
    refine wp_block (wp_mono (ih s (o, s1) σ a w hS h1) ?_)
    rintro e a' w' ⟨rfl, σ1, hS1, hst⟩
    cases o with
    | normal =>
      have h2 : some (Ox.normal, s1) = some p := h2
      cases h2
      exact ⟨rfl, σ1, hS1, hst⟩
    | exit i =>
      have h2 : (Bool.rec (some (Ox.exit i, s1)) (some (Ox.normal, s1)) (Nat.beq i id) : Option (Ox × St)) = some p := h2
      show (if i = id then _ else _)
      cases hb : Nat.beq i id with
      | true => rw [hb] at h2; cases h2; rw [if_pos (beqIff.1 hb)]; exact ⟨rfl, σ1, hS1, hst⟩
      | false =>
        rw [hb] at h2; cases h2
        rw [if_neg (fun e => by rw [beqIff.2 e] at hb; cases hb)]; exact ⟨rfl, σ1, hS1, hst⟩
    | ret =>
      have h2 : some (Ox.ret, s1) = some p := h2
      cases h2
      exact ⟨rfl, σ1, hS1, hst⟩
  | loop x ih =>
    intro s p σ a w hS h b k cs
    have h : iter 1000000 (evCode P call N x) s = some p := h
    obtain ⟨e, a', w', hq, harr⟩ := iter_wp ih _ s p σ a w hS h b k cs
    exact ⟨e, a', w', hq, .of_steps (.one step_loop) harr⟩
  | scope x ih =>
    intro s p σ a w hS h
    have h : evCode P call N x s = some p := h
    refine wp_scope_straight (wp_mono (ih s p σ a w hS h) ?_)
    rintro e a' w' ⟨rfl, σ', h1, h2⟩
    obtain ⟨o, s1⟩ := p
    cases o <;> exact ⟨rfl, σ', h1, h2⟩
theorem frameOf_get (t : Nat) : ∀ (vs : List Value) (i : Nat) (F : T Value), (frameOf vs i F).get t = if i ≤ t ∧ t < i + vs.length then vs[t - i]? else F.get t := by
  intro vs
  induction vs with
  | nil => intro i F; rw [if_neg (by simp)]; rfl
  | cons v vs ih =>
    intro i F
    show (frameOf vs (Nat.succ i) (F.set i v)).get t = _
    rw [ih, get_set]
    have e : Nat.succ i = i + 1 := rfl
    rw [e]
    by_cases h1 : t = i
    · subst h1
      rw [if_neg (by omega), if_pos rfl, if_pos (by simp)]
      simp
    · by_cases h2 : i + 1 ≤ t ∧ t < i + 1 + vs.length
      · rw [if_pos h2, if_pos (by simp; omega)]
        rw [show t - i = (t - (i + 1)) + 1 by omega]
        simp
      · rw [if_neg h2, if_neg h1, if_neg (by simp; omega)]
structure EnvOK (P : Program) [Frozen P] (E : Env) : Prop where
  mixed : P.follows .mixedOrders = true
  name : ∀ (f : Nat) (fn : Func), P.funcs[f]? = some fn → (fn.name == "runtime.NumGoroutine") = false
  dh : ∀ f ∈ E.dh, (∀ args w, (callFunc f args).run P w = .ok (.enter f args) w) ∧ ∀ x w, CallsD P f #[x] .returning w fun e u' w' => (∃ v, e = .returned v) ∧ u' = .returning ∧ w' = w
  ne : ∀ f ∈ E.ne, ∀ x w, (callFunc f #[x]).run P w = .ok (.value x) w
  mz : ∀ f ∈ E.mz, ∀ (n : Nat) (w : World), n ≤ 1073741824 → ∃ (cs : Array Value) (w' : World), (callFunc f #[.int .i64 (.ofNat n)]).run P w = .ok (.value (.slice (some ⟨w.heap.size, 0, none⟩) n cs.size)) w' ∧ w'.heap = w.heap.push (.cells cs E.ty) ∧ n ≤ cs.size ∧
    w'.os = w.os ∧ w'.tape = w.tape ∧ w'.output = w.output
  one : E.mz = [] ∨ ∃ i, P.info? E.ty = some i ∧ i.size = 1
theorem oneV_some {vs : List Value} {v : Value} : oneV vs = some v ↔ vs = [v] := by
  cases vs with
  | nil => constructor <;> intro h <;> cases h
  | cons x l => cases l with
    | nil => show some x = some v ↔ _; simp
    | cons y l => constructor <;> intro h <;> cases h
theorem ext_ok {E : Env} (hE : EnvOK P E) {f : FuncId} {args args' : List Value} {A A' : AW} {v : Value} (h : extA E f args A = some (v, A')) {σ : Sg} {w : World} (hR : Rel P σ A w) (ha : VRL σ args args') : Serves P σ A w ((callFunc f ⟨args'⟩).run P w) v A' := by
  simp only [extA, ob_some, oneV_some] at h
  obtain ⟨x, rfl, h⟩ := h
  cases ha with
  | cons hx hnil =>
    cases hnil
    rename_i x'
    cases hb : memB f E.ne with
    | true =>
      rw [hb] at h
      have h : some (x, A) = some (v, A') := h
      cases h
      exact .inl ⟨x', w, hE.ne f (memB_iff.1 hb) x' w, σ, hx, hR, .refl hR.lim⟩
    | false =>
      rw [hb] at h
      simp only [bt_some, ob_some, i64V_some, bleIff, newSlice, Option.some.injEq, Prod.mk.injEq] at h
      obtain ⟨hm, n, rfl, hn, rfl, rfl⟩ := h
      obtain rfl := hx.of_flat rfl
      obtain ⟨cs, w', h1, h2, h3, h4, h5, h6⟩ := hE.mz f (memB_iff.1 hm) n w hn
      obtain ⟨i, hi, hi1⟩ := hE.one.resolve_left fun e => by rw [e] at hm; cases hm
      have hg := hR.new (o := .row [] E.ty (.grown n)) (d := cs.size - n) (x := .cells cs E.ty) h2
        ⟨.inr rfl, by
          have := rowR_grown (P := P) (σ := σ) (c := []) (cs := []) (x := cs.toList) (e := E.ty) (rc := n) (d := cs.size - n) (fz := (0, 0)) .nil hi (by rw [hi1]; simp; omega) (unfrozen_zero _)
          exact this⟩ h4 h5 h6
      refine .inl ⟨_, w', h1, _, ?_, hg.1, hg.2⟩
      have := VR.slice (σ := ext σ A.next (w.heap.size, cs.size - n)) (i := A.next) (o := 0) (l := n) (c := n) (ext_self _ _)
      rw [show n + (cs.size - n) = cs.size by omega] at this
      exact this
def resOne (tmps : Array Value) : ResultVar → Sem Value
  | .tmp t => pure (tmps.getD t undef)
  | .cell x t => do loadVar t (← asAddr (tmps.getD x undef))
theorem results_def (fn : Func) (tmps : Array Value) : results fn tmps = (do let vs ← fn.results.mapM (resOne tmps); pure (if h : vs.size = 1 then vs[0] else .tuple vs)) := by
  unfold results
  congr 1
theorem resA_run {σ : Sg} {A : AW} {w : World} (hR : Rel P σ A w) {F : T Value} {a : Act} (hF : FrR N σ F a) : ∀ {rs : List ResultVar} {vs : List Value}, resA P F A.heap rs = some vs →
    ∃ vs', VRL σ vs vs' ∧ (rs.mapM (resOne a.tmps)).run P w = .ok vs' w := by
  intro rs
  induction rs with
  | nil => intro vs h; have := omap_nil.1 h; subst this; exact ⟨[], .nil, rfl⟩
  | cons r rs ih =>
    intro vs h
    obtain ⟨y, ys, h1, h2, rfl⟩ := omap_cons.1 h
    obtain ⟨vs', h3, h4⟩ := ih h2
    have hone : ∃ y', VR σ y y' ∧ (resOne a.tmps r).run P w = .ok y' w := by
      cases r with
      | tmp t =>
        have h1 : F.get t = some y := h1
        obtain ⟨y', e1, e2⟩ := hF.get t y h1
        exact ⟨y', e2, by simp [resOne, e1]⟩
      | cell x t =>
        have h1 : ob (F.get x) (loadA P t A.heap) = some y := h1
        rw [ob_some] at h1
        obtain ⟨p, hp, hl⟩ := h1
        obtain ⟨p', e1, e2⟩ := hF.get x p hp
        obtain ⟨y', e3, _, q, e4, e5⟩ := run_loadA hR hl e2
        subst e4
        exact ⟨y', e3, by simp [resOne, e1, asAddr, e5]⟩
    obtain ⟨y', e1, e2⟩ := hone
    refine ⟨y' :: vs', .cons e1 h3, ?_⟩
    simp only [List.mapM_cons, Sem.run_bind, e2, Result.andThen_ok, h4, Sem.run_pure]
theorem results_run {σ : Sg} {A : AW} {w : World} (hR : Rel P σ A w) {F : T Value} {a : Act} (hF : FrR N σ F a) {fn : Func} {vs : List Value} (h : resA P F A.heap fn.results.toList = some vs) :
    ∃ v', VR σ (resultA vs) v' ∧ (results fn a.tmps).run P w = .ok v' w := by
  obtain ⟨vs', h1, h2⟩ := resA_run hR hF h
  refine ⟨if hh : vs'.toArray.size = 1 then vs'.toArray[0] else .tuple vs'.toArray, ?_, ?_⟩
  · cases h1 with
    | nil => exact .tuple .nil
    | cons e1 e2 => cases e2 with
      | nil => exact e1
      | cons e3 e4 => exact .tuple (.cons e1 (.cons e3 e4))
  · have : fn.results = fn.results.toList.toArray := rfl
    rw [results_def, this, List.mapM_toArray]
    simp only [Sem.run_bind, Sem.run_map, h2, Result.andThen_ok, Sem.run_pure]
theorem entered {f : FuncId} {fn : Func} {c : Code} (hname : (fn.name == "runtime.NumGoroutine") = false) (hf : P.funcs[f]? = some fn) (hb : fn.body = some c) (args : Array Value) (w : World) : (callFunc f args).run P w = .ok (.enter f args) w := by
  have hname : fn.name ≠ "runtime.NumGoroutine" := by simpa using hname
  simp [callFunc, hf, hname, hb]
theorem body_SR {fn : Func} {args args' : List Value} {A : AW} {σ : Sg} {w : World} (hle : args.length ≤ fn.ntmps) (hR : Rel P σ A w) (ha : VRL σ args args') :
    SR P fn.ntmps σ ⟨frameOf args 0 .e, A, []⟩ { tmps := (⟨args'⟩ : Array Value) ++ Array.replicate (fn.ntmps - (⟨args'⟩ : Array Value).size) undef, defers := [] } w := by
  have hlen := ha.length
  refine ⟨⟨by simp; omega, fun t u hu => ?_⟩, hR, .nil⟩
  simp only [frameOf_get] at hu
  split at hu
  · simp only [Nat.sub_zero] at hu
    obtain ⟨u', e1, e2⟩ := ha.get hu
    refine ⟨u', ?_, e2⟩
    rw [Array.getElem?_append_left (by simp; omega)]
    simpa using e1
  · cases hu
theorem funcA_some {f : FuncId} {fn : Func} (h : funcA P f = some fn) : P.funcs[f]? = some fn := by
  have : lget P.funcs.toList f = some fn := h
  rw [lget_eq] at this; simpa using this
theorem dCall_ok {E : Env} (hE : EnvOK P E) (hcall : CallOK P call) {f : FuncId} {args args' : List Value} {A A' : AW} {v : Value} (h : dCall P call f args A = some (v, A')) {σ : Sg} {w : World} (hR : Rel P σ A w) (ha : VRL σ args args') :
    (callFunc f ⟨args'⟩).run P w = .ok (.enter f ⟨args'⟩) w ∧ CallsD P f ⟨args'⟩ .returning w fun e u' w' => u' = .returning ∧ GoodE P σ A w v A' e w' := by
  simp only [dCall, ob_some] at h
  obtain ⟨fn, hf, c, hb, h⟩ := h
  have hf := funcA_some hf
  refine ⟨entered (hE.name f fn hf) hf hb _ w, ?_⟩
  simp only [bodyD, bt_some, bleIff, ob_some] at h
  obtain ⟨hle, ⟨o, s⟩, h1, h2⟩ := h
  have hS := body_SR (P := P) hle hR ha
  refine callsD_of_wp hf hb (wp_mono (code_wp hE.mixed hcall c _ (o, s) σ _ w hS h1) ?_)
  rintro e a' w' ⟨rfl, σ', hS', hst⟩
  have key : finD P fn s = some (v, A') → a'.defers = [] ∧ ∃ v', (results fn a'.tmps).run P w' = .ok v' w' ∧ GoodE P σ A w v A' (.returned v') w' := by
    intro hfn
    unfold finD at hfn
    have hds := hS'.ds
    simp only at hds
    cases hd : s.ds with
    | cons d ds => rw [hd] at hfn; cases hfn
    | nil =>
      rw [hd] at hfn hds
      simp only [ob_some, Option.some.injEq, Prod.mk.injEq] at hfn
      obtain ⟨vs, hvs, rfl, rfl⟩ := hfn
      obtain ⟨v', e1, e2⟩ := results_run hS'.rel hS'.fr hvs
      refine ⟨?_, v', e2, σ', e1, hS'.rel, hst⟩
      generalize a'.defers = q at hds
      cases hds; rfl
  cases o with
  | normal => exact key h2
  | ret => exact key h2
  | exit i => cases h2
theorem leaves_of {E : Env} (hE : EnvOK P E) (hcall : CallOK P call) {fn : Func} {tmps : Array Value} {R : Ending → World → Prop} {A' : AW} : ∀ (ds ds' : List Deferred) (σ : Sg) (A : AW) (w : World), DRL σ ds ds' → Rel P σ A w → leaveA P call E.dh ds A = some A' →
    (∀ σ' w', Rel P σ' A' w' → Step σ A w σ' A' w' → ∃ v, (results fn tmps).run P w' = .ok v w' ∧ R (.returned v) w') → Leaves P fn tmps R ds' .returning w := by
  intro ds
  induction ds with
  | nil =>
    intro ds' σ A w hD hR h hQ
    cases hD
    have h : some A = some A' := h
    cases h
    exact hQ σ w hR (.refl hR.lim)
  | cons d ds ih =>
    intro ds' σ A w hD hR h hQ
    cases hD with
    | @cons g cap cap' args args' l l' hc ha hl =>
      have h : (ob (plainFn (.fn g ⟨cap⟩)) fun p => (Bool.rec (ob (dCall P call p.1 (args ++ p.2.toList) A) fun q => leaveA P call E.dh ds q.2) (bt (lenB (args ++ p.2.toList) 1) (leaveA P call E.dh ds A)) (memB p.1 E.dh) : Option AW)) = some A' := h
      cases g with
      | func f =>
        have h : (Bool.rec (ob (dCall P call f (args ++ cap) A) fun q => leaveA P call E.dh ds q.2) (bt (lenB (args ++ cap) 1) (leaveA P call E.dh ds A)) (memB f E.dh) : Option AW) = some A' := h
        cases hm : memB f E.dh with
        | true =>
          rw [hm] at h
          rw [bt_some, lenB_iff] at h
          obtain ⟨h1, h⟩ := h
          obtain ⟨k1, k2⟩ := hE.dh f (memB_iff.1 hm)
          have hl1 : (args' ++ cap').length = 1 := by rw [(ha.append hc).length]; exact h1
          obtain ⟨x, hx⟩ := List.length_eq_one_iff.1 hl1
          have hx : (⟨args'⟩ : Array Value) ++ ⟨cap'⟩ = #[x] := by apply Array.toList_inj.1; simpa using hx
          refine leaves_cons (by simp) (f := f) (args := ⟨args'⟩ ++ ⟨cap'⟩) ?_ ?_
          · simp only [invoke]; exact k1 _ w
          · rw [hx]
            refine CallsD.mono (k2 _ w) ?_
            rintro e u' w' ⟨⟨v, rfl⟩, rfl, rfl⟩
            exact ih l' σ A w' hl hR h hQ
        | false =>
          rw [hm] at h
          simp only [ob_some] at h
          obtain ⟨⟨v, B⟩, hd, h⟩ := h
          obtain ⟨k1, k2⟩ := dCall_ok hE hcall hd hR (ha.append hc)
          refine leaves_cons (by simp) (f := f) (args := ⟨args' ++ cap'⟩) ?_ ?_
          · simp only [invoke]
            have : (⟨args'⟩ : Array Value) ++ ⟨cap'⟩ = ⟨args' ++ cap'⟩ := by apply Array.toList_inj.1; simp
            rw [this]; exact k1
          · refine CallsD.mono k2 ?_
            rintro e u' w' ⟨rfl, hg⟩
            cases e with
            | returned v' =>
              obtain ⟨σ', hv, hR', hst⟩ := hg
              exact ih l' σ' B w' (hl.sub (hst.sub hR.lim)) hR' h fun σ2 w2 h1 h2 => hQ σ2 w2 h1 (hst.trans h2)
            | _ => exact hg.elim
      | _ => cases h
theorem body_ok {E : Env} (hE : EnvOK P E) (hcall : CallOK P call) {f : FuncId} {fn : Func} {c : Code} (hf : P.funcs[f]? = some fn) (hb : fn.body = some c) {args args' : List Value} {A A' : AW} {v : Value} (h : bodyA P call E.dh fn c args A = some (v, A')) {σ : Sg} {w : World}
    (hR : Rel P σ A w) (ha : VRL σ args args') : Serves P σ A w ((callFunc f ⟨args'⟩).run P w) v A' := by
  simp only [bodyA, bt_some, bleIff, ob_some] at h
  obtain ⟨hle, ⟨o, s⟩, h1, h2⟩ := h
  refine .inr ⟨f, ⟨args'⟩, entered (hE.name f fn hf) hf hb _ w, ?_⟩
  refine calls_of_wp_defers hf hb ?_
  have hS := body_SR (P := P) hle hR ha
  refine wp_mono (code_wp hE.mixed hcall c _ (o, s) σ _ w hS h1) ?_
  rintro e a' w' ⟨rfl, σ', hS', hst⟩
  have key : finA P call E.dh fn s = some (v, A') → Leaves P fn a'.tmps (GoodE P σ A w v A') a'.defers .returning w' := by
    intro hfn
    simp only [finA, ob_some, Option.some.injEq, Prod.mk.injEq] at hfn
    obtain ⟨B, hl, vs, hvs, rfl, rfl⟩ := hfn
    refine leaves_of hE hcall _ _ σ' s.A w' hS'.ds hS'.rel hl fun σ2 w2 hR2 hst2 => ?_
    obtain ⟨v', e1, e2⟩ := results_run hR2 (hS'.fr.sub (hst2.sub hS'.rel.lim)) hvs
    exact ⟨v', e2, σ2, e1, hR2, hst.trans hst2⟩
  cases o with
  | normal => exact key h2
  | ret => exact key h2
  | exit i => cases h2
def HookOK (P : Program) [Frozen P] (hook : Caller → Caller) : Prop := ∀ c, CallOK P c → CallOK P (hook c)
theorem evCallH_ok {E : Env} (hE : EnvOK P E) {hook : Caller → Caller} (hH : HookOK P hook) : ∀ n, CallOK P (evCallH P E hook n) := by
  intro n
  induction n with
  | zero => intro f args A v A' h; cases h
  | succ n ih =>
    refine hH _ ?_
    intro f args A v A' h σ w args' hR ha
    simp only [ob_some] at h
    obtain ⟨fn, hf, h⟩ := h
    have hf := funcA_some hf
    cases hb : fn.body with
    | none => rw [hb] at h; exact ext_ok hE h hR ha
    | some c => rw [hb] at h; exact body_ok hE ih hf hb h hR ha
end Go.Ev
