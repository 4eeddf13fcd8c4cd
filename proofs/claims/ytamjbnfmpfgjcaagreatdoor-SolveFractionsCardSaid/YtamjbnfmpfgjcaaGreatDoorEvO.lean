/- The evaluator: frames, one operation in its region; a region in the text's order. -/
import Derived.Test.YtamjbnfmpfgjcaaGreatDoorEvN
import Derived.Orders
namespace Go.Ev
variable {P : Program} {σ σ' : Sg} {A A' : AW} {w w' : World} {N : Nat} {call : Caller}

inductive DRL (σ : Sg) : List Deferred → List Deferred → Prop
  | nil : DRL σ [] []
  | cons {fn : Fn} {cap cap' args args' : List Value} {l l' : List Deferred} : VRL σ cap cap' → VRL σ args args' → DRL σ l l' → DRL σ (⟨.fn fn ⟨cap⟩, ⟨args⟩⟩ :: l) (⟨.fn fn ⟨cap'⟩, ⟨args'⟩⟩ :: l')
theorem DRL.sub (h : Sub σ σ') : ∀ {l l' : List Deferred}, DRL σ l l' → DRL σ' l l'
  | _, _, .nil => .nil
  | _, _, .cons a b c => .cons (a.sub h) (b.sub h) (c.sub h)
/-- A frame. -/
structure FrR (N : Nat) (σ : Sg) (F : T Value) (a : Act) : Prop where
  size : a.tmps.size = N
  get : ∀ t v, F.get t = some v → ∃ v', a.tmps[t]? = some v' ∧ VR σ v v'
theorem FrR.sub (h : Sub σ σ') {F : T Value} {a : Act} (k : FrR N σ F a) : FrR N σ' F a :=
  ⟨k.size, fun t v hv => let ⟨v', h1, h2⟩ := k.get t v hv; ⟨v', h1, h2.sub h⟩⟩
/-- What operands look at. -/
def tmpIn (t : Nat) (xs : List Operand) : Prop := Operand.tmp t ∈ xs
theorem ok_of {F : T Value} {a : Act} {xs : List Operand} (hg : ∀ g, g < P.globals.size → σ g = some (g, 0)) (h : ∀ t, tmpIn t xs → ∀ v, F.get t = some v → ∃ v', a.tmps[t]? = some v' ∧ VR σ v v') : OK P σ F a xs := by
  intro x hx v hv
  cases x with
  | tmp t =>
    obtain ⟨v', h1, h2⟩ := h t hx v hv
    simp only [Act.eval, Array.getD_eq_getD_getElem?, h1, Option.getD_some]
    exact h2
  | const u =>
    have hv : constV u = some v := hv
    simp only [constV, bt_some, Option.some.injEq] at hv
    obtain ⟨hf, rfl⟩ := hv
    exact .refl_flat2 hf
  | global g =>
    have hv : bt (Nat.blt g P.globals.size) (some (Value.pointer (some ⟨g, 0, none⟩))) = some v := hv
    simp only [bt_some, blt_iff, Option.some.injEq] at hv
    obtain ⟨hlt, rfl⟩ := hv
    exact .ptr (hg g hlt)
  | func f =>
    have hv : some (Value.func (.func f) #[] #[]) = some v := hv
    cases hv
    exact .func .nil .nil
theorem FrR.ok {F : T Value} {a : Act} (k : FrR N σ F a) (hg : ∀ g, g < P.globals.size → σ g = some (g, 0)) (xs : List Operand) : OK P σ F a xs := ok_of hg fun t _ v hv => k.get t v hv
theorem putF_some {F F' : T Value} {d : Option Tmp} {v : Value} (h : putF N F d v = some F') : (d = none ∧ F' = F) ∨ ∃ t, d = some t ∧ t < N ∧ F' = F.set t v := by
  cases d with
  | none => have h : some F = some F' := h; cases h; exact .inl ⟨rfl, rfl⟩
  | some t =>
    have h : bt (Nat.blt t N) (some (F.set t v)) = some F' := h
    simp only [bt_some, blt_iff, Option.some.injEq] at h
    exact .inr ⟨t, rfl, h.1, h.2.symm⟩
theorem put_size (a : Act) (d : Option Tmp) (v : Value) : (a.put d v).tmps.size = a.tmps.size := by cases d <;> simp [Act.put]
theorem put_defs (a : Act) (d : Option Tmp) (v : Value) : (a.put d v).defers = a.defers := by cases d <;> rfl
theorem put_get (a : Act) (d : Option Tmp) (v : Value) (t : Nat) (h : d ≠ some t) : (a.put d v).tmps[t]? = a.tmps[t]? := by
  cases d with
  | none => rfl
  | some d => simp only [Act.put, Array.getElem?_setIfInBounds]; rw [if_neg (fun e => h (by rw [e]))]
theorem put_self (a : Act) (t : Nat) (v : Value) (h : t < a.tmps.size) : (a.put (some t) v).tmps[t]? = some v := by simp [Act.put, h]
theorem FrR.put {F F' : T Value} {a : Act} (k : FrR N σ F a) {d : Option Tmp} {v v' : Value} (h : putF N F d v = some F') (hv : VR σ v v') : FrR N σ F' (a.put d v') := by
  refine ⟨by rw [put_size]; exact k.size, fun t u hu => ?_⟩
  rcases putF_some h with ⟨rfl, rfl⟩ | ⟨q, rfl, hq, rfl⟩
  · exact k.get t u hu
  · rw [get_set] at hu
    split at hu
    · rename_i e; subst e; cases hu
      exact ⟨v', put_self a t v' (by rw [k.size]; exact hq), hv⟩
    · rename_i e
      rw [put_get a _ v' t (fun hh => e (by cases hh; rfl))]
      exact k.get t u hu
/-- Is an operation wanted? -/
theorem wantB_run {want : Bool} {v v' : Value} (h : VR σ v v') : wantB want v = (boolOf v' == some want) := by
  cases h with
  | flat e => cases v <;> first | rfl | (rename_i b; cases b <;> cases want <;> rfl)
  | _ => rfl
theorem guardOf_some {all : List Oper} {j d : Nat} (h : guardOf all j = some d) : ((⟨all⟩ : Array Oper)[j]?).bind (·.dst) = some d := by
  simp only [guardOf, ob_some, lget_eq] at h
  obtain ⟨g, hg, hd⟩ := h
  have : (⟨all⟩ : Array Oper)[j]? = some g := by simpa using hg
  rw [this]; exact hd
theorem wanted_run {all : List Oper} {o : Oper} {F : T Value} {a : Act} {b : Bool} (h : wantedA all o F = some b)
    (hF : ∀ j want d, o.guard = some (j, want) → guardOf all j = some d → ∀ v, F.get d = some v → ∃ v', a.tmps[d]? = some v' ∧ VR σ v v') : Region.wanted o (yielded ⟨all⟩ a.tmps) = b := by
  unfold wantedA at h
  unfold Region.wanted
  cases hg : o.guard with
  | none => rw [hg] at h; cases h; rfl
  | some g =>
    obtain ⟨j, want⟩ := g
    rw [hg] at h
    have h : (ob (guardOf all j) fun d => ob (F.get d) fun v => some (wantB want v)) = some b := h
    simp only [ob_some, Option.some.injEq] at h
    obtain ⟨d, hd, v, hv, rfl⟩ := h
    obtain ⟨v', h1, h2⟩ := hF j want d hg hd v hv
    simp only [yielded, guardOf_some hd, Option.bind_some, h1]
    rw [wantB_run h2]
    cases v' <;> rfl
/-- What a call comes to. -/
def Good (P : Program) (σ : Sg) (A : AW) (w : World) (v : Value) (A' : AW) (v' : Value) (w' : World) : Prop := ∃ σ', VR σ' v v' ∧ Rel P σ' A' w' ∧ Step σ A w σ' A' w'
def GoodE (P : Program) (σ : Sg) (A : AW) (w : World) (v : Value) (A' : AW) : Ending → World → Prop
  | .returned v', w' => Good P σ A w v A' v' w'
  | _, _ => False
def Serves (P : Program) (σ : Sg) (A : AW) (w : World) (r : Result Next) (v : Value) (A' : AW) : Prop :=
  (∃ v' w', r = .ok (.value v') w' ∧ Good P σ A w v A' v' w') ∨ ∃ f args, r = .ok (.enter f args) w ∧ Calls P f args w (GoodE P σ A w v A')
def CallOK (P : Program) (call : Caller) : Prop := ∀ f args A v A', call f args A = some (v, A') → ∀ σ w args', Rel P σ A w → VRL σ args args' → Serves P σ A w ((callFunc f ⟨args'⟩).run P w) v A'
/-- A loud operation. -/
theorem loud_wp (hcall : CallOK P call) (hR : Rel P σ A w) {o : Oper} {a : Act} {F : T Value} {ds ds' : List Deferred} {v : Value} (hO : OK P σ F a o.op.operands.toList) (hD : DRL σ ds a.defers)
    (h : doFx call ds (evE o.op P F A) = some (v, A', ds')) {next : Act → World → Prop} {Q : Exit → Act → World → Prop}
    (hn : ∀ v' (a' : Act) σ' w', a'.tmps = a.tmps → DRL σ' ds' a'.defers → VR σ' v v' → Rel P σ' A' w' → Step σ A w σ' A' w' → next (a'.put o.dst v') w') : o.wp P a w next Q := by
  simp only [doFx, ob_some] at h
  obtain ⟨f, hf, h⟩ := h
  have hfine := evE_sound hR hO hf
  unfold Oper.wp
  generalize (execOp a.eval o).run P w = r at hfine ⊢
  cases f with
  | val u B =>
    have h : some (u, B, ds) = some (v, A', ds') := h
    cases h
    obtain ⟨v', σ', w', hr, hv, hR', hS⟩ := hfine
    have := hn v' a σ' w' rfl (hD.sub (hS.sub hR.lim)) hv hR' hS
    rcases hr with rfl | ⟨rfl, rfl⟩
    · exact this
    · exact this
  | enter f args B =>
    have h : (ob (call f args B) fun p => some (p.1, p.2, ds)) = some (v, A', ds') := h
    simp only [ob_some, Option.some.injEq] at h
    obtain ⟨⟨u, C⟩, hc, h⟩ := h
    cases h
    obtain ⟨rfl, args', ha, rfl⟩ := hfine
    rcases hcall f args B u C hc σ w args' hR ha with ⟨v', w', hr, σ', hv, hR', hS⟩ | ⟨g, as_, hr, hC⟩
    · rw [hr]; exact hn v' a σ' w' rfl (hD.sub (hS.sub hR.lim)) hv hR' hS
    · rw [hr, Oper.upon_enter]
      refine Calls.mono hC fun e w' he => ?_
      cases e with
      | returned v' => obtain ⟨σ', hv, hR', hS⟩ := he; exact hn v' a σ' w' rfl (hD.sub (hS.sub hR.lim)) hv hR' hS
      | _ => exact he.elim
  | defr d B =>
    have h : some (Value.tuple #[], B, d :: ds) = some (v, A', ds') := h
    cases h
    obtain ⟨rfl, fn, cap, cap', args, args', rfl, hc, ha, rfl⟩ := hfine
    exact hn undef { a with defers := _ :: a.defers } σ w rfl (.cons hc ha hD) .undef hR (.refl hR.lim)
/-- The state. -/
structure SR (P : Program) (N : Nat) (σ : Sg) (s : St) (a : Act) (w : World) : Prop where
  fr : FrR N σ s.F a
  rel : Rel P σ s.A w
  ds : DRL σ s.ds a.defers
theorem insOf_q {o : Op} {f : Program → T Value → T AO → Option Value} (h : insOf P o = .q f) : f = evQ o := by
  unfold insOf at h; cases hb : isE P o <;> rw [hb] at h <;> cases h; rfl
theorem insOf_e {o : Op} {f : Program → T Value → AW → Option Fx} (h : insOf P o = .e f) : f = evE o := by
  unfold insOf at h; cases hb : isE P o <;> rw [hb] at h <;> cases h; rfl
theorem stepOp_wp (hcall : CallOK P call) {all : List Oper} {o : Oper} {s s' : St} {i : Nat} (ho : (⟨all⟩ : Array Oper)[i]? = some o) {a : Act} (hS : SR P N σ s a w) (h : stepOp P call N all o s = some s') {K : Act → World → Prop} {Q : Exit → Act → World → Prop}
    (hK : ∀ σ' a' w', SR P N σ' s' a' w' → Step σ s.A w σ' s'.A w' → K a' w') : wpOp P ⟨all⟩ Q i K a w := by
  simp only [stepOp, ob_some] at h
  obtain ⟨b, hb, h⟩ := h
  have hw : Region.wanted o (yielded ⟨all⟩ a.tmps) = b := wanted_run (σ := σ) hb fun j want d _ _ v hv => hS.fr.get d v hv
  unfold wpOp
  simp only [ho, hw]
  have hO := hS.fr.ok hS.rel.glob o.op.operands.toList
  cases b with
  | false =>
    have h : stepU N o.dst s = some s' := h
    simp only [stepU, ob_some, Option.some.injEq] at h
    obtain ⟨F, hF, rfl⟩ := h
    simp only [Bool.false_eq_true, if_false]
    exact hK σ _ w ⟨hS.fr.put hF .undef, hS.rel, by rw [put_defs]; exact hS.ds⟩ (.refl hS.rel.lim)
  | true =>
    simp only [if_true]
    refine .inl ?_
    have h : (Ins.rec (fun f => stepQ P N o.dst f s) (fun f => stepE P call N o.dst f s) (insOf P o.op) : Option St) = some s' := h
    cases hi : insOf P o.op with
    | q f =>
      rw [hi] at h
      obtain rfl := insOf_q hi
      have h : stepQ P N o.dst (evQ o.op) s = some s' := h
      simp only [stepQ, ob_some, Option.some.injEq] at h
      obtain ⟨v, hv, F, hF, rfl⟩ := h
      obtain ⟨v', h1, h2⟩ := evQ_sound hS.rel hO hv
      unfold Oper.wp
      rw [h2, Oper.upon_value]
      exact hK σ _ w ⟨hS.fr.put hF h1, hS.rel, by rw [put_defs]; exact hS.ds⟩ (.refl hS.rel.lim)
    | e f =>
      rw [hi] at h
      obtain rfl := insOf_e hi
      have h : stepE P call N o.dst (evE o.op) s = some s' := h
      simp only [stepE, ob_some, Option.some.injEq] at h
      obtain ⟨⟨v, B, ds'⟩, hv, F, hF, rfl⟩ := h
      refine loud_wp hcall hS.rel hO hS.ds hv fun v' a' σ' w' ht hd hv' hR' hS' => ?_
      refine hK σ' _ w' ⟨?_, hR', by rw [put_defs]; exact hd⟩ hS'
      have hf := (hS.fr.sub (hS'.sub hS.rel.lim))
      have : FrR N σ' s.F a' := ⟨by rw [ht]; exact hf.size, by rw [ht]; exact hf.get⟩
      exact this.put hF hv'
theorem seqOps_cons {all : List Oper} {o : Oper} {os : List Oper} {s : St} : seqOps P call N all (o :: os) s = ob (stepOp P call N all o s) (seqOps P call N all os) := rfl
theorem seq_wp (hcall : CallOK P call) {all : List Oper} {Q : Exit → Act → World → Prop} : ∀ (os : List Oper) (i : Nat) (s s' : St) (σ : Sg) (a : Act) (w : World), all.drop i = os → SR P N σ s a w → seqOps P call N all os s = some s' →
    (∀ σ' a' w', SR P N σ' s' a' w' → Step σ s.A w σ' s'.A w' → Q .normal a' w') → wpOps P ⟨all⟩ Q (List.range' i os.length) a w := by
  intro os
  induction os with
  | nil =>
    intro i s s' σ a w _ hS h hQ
    have h : some s = some s' := h
    cases h
    exact hQ σ a w hS (.refl hS.rel.lim)
  | cons o os ih =>
    intro i s s' σ a w hd hS h hQ
    rw [seqOps_cons, ob_some] at h
    obtain ⟨s1, h1, h2⟩ := h
    have ho : (⟨all⟩ : Array Oper)[i]? = some o := by
      have : all[i]? = some o := by
        have := congrArg (fun l => l[0]?) hd
        simpa using this
      simpa using this
    rw [List.length_cons, List.range'_succ, wpOps_cons]
    refine stepOp_wp hcall ho hS h1 fun σ1 a1 w1 hS1 hst => ?_
    refine ih (i + 1) s1 s' σ1 a1 w1 ?_ hS1 h2 fun σ' a' w' hS' hst' => hQ σ' a' w' hS' (hst.trans hst')
    have := congrArg (List.drop 1) hd
    simpa [List.drop_drop, Nat.add_comm] using this
theorem region_wp (hcall : CallOK P call) {all : List Oper} {id : Nat} {Q : Exit → Act → World → Prop} {s s' : St} {a : Act} (hS : SR P N σ s a w) (h : seqOps P call N all all s = some s')
    (hQ : ∀ σ' a' w', SR P N σ' s' a' w' → Step σ s.A w σ' s'.A w' → Q .normal a' w') : (Code.region id ⟨all⟩ false).wp P Q a w := by
  refine wp_region ?_
  have := seq_wp hcall all 0 s s' σ a w rfl hS h hQ
  rwa [← List.range_eq_range'] at this
end Go.Ev
