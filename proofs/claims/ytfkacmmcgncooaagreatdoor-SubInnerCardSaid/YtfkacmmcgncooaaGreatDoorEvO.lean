/- The evaluator: frames, one operation in its region; a region in the text's order. -/
import Derived.Test.YtfkacmmcgncooaaGreatDoorEvM
import Derived.Orders
section
set_option linter.unusedSectionVars false
namespace Go.Ev
variable {P : Program} {σ σ' : Sg} {A A' : AW} {w w' : World} {N : Nat} {call : Caller} [Frozen P]
inductive DRL (σ : Sg) : List Deferred → List Deferred → Prop
  | nil : DRL σ [] []
  | cons {fn : Fn} {cap cap' args args' : List Value} {l l' : List Deferred} : VRL σ cap cap' → VRL σ args args' → DRL σ l l' → DRL σ (⟨.fn fn ⟨cap⟩, ⟨args⟩⟩ :: l) (⟨.fn fn ⟨cap'⟩, ⟨args'⟩⟩ :: l')
theorem DRL.sub (h : Sub σ σ') : ∀ {l l' : List Deferred}, DRL σ l l' → DRL σ' l l'
  | _, _, .nil => .nil
  | _, _, .cons a b c => .cons (a.sub h) (b.sub h) (c.sub h)
structure FrR (N : Nat) (σ : Sg) (F : T Value) (a : Act) : Prop where
  size : a.tmps.size = N
  get : ∀ t v, F.get t = some v → ∃ v', a.tmps[t]? = some v' ∧ VR σ v v'
theorem FrR.sub (h : Sub σ σ') {F : T Value} {a : Act} (k : FrR N σ F a) : FrR N σ' F a :=
  ⟨k.size, fun t v hv => let ⟨v', h1, h2⟩ := k.get t v hv; ⟨v', h1, h2.sub h⟩⟩
def tmpIn (t : Nat) (xs : List Operand) : Prop := Operand.tmp t ∈ xs
theorem ok_of {F : T Value} {a : Act} {xs : List Operand} (hg : ∀ g, g < P.globals.size → σ g = some (g, 0)) (h : ∀ t, tmpIn t xs → ∀ v, F.get t = some v → ∃ v', a.tmps[t]? = some v' ∧ VR σ v v') : OK P σ F a xs := by
  intro x hx v hv
  cases x with
  | tmp t =>
    obtain ⟨v', h1, h2⟩ := h t hx v hv
    simp only [Act.eval, Array.getD_eq_getD_getElem?, h1, Option.getD_some]
    exact h2
  | const u =>
    have hv : constV u = some v := hv
    simp only [constV, bt_some, Option.some.injEq] at hv
    obtain ⟨hf, rfl⟩ := hv
    exact .refl_flat2 hf
  | global g =>
    have hv : bt (Nat.blt g P.globals.size) (some (Value.pointer (some ⟨g, 0, none⟩))) = some v := hv
    simp only [bt_some, blt_iff, Option.some.injEq] at hv
    obtain ⟨hlt, rfl⟩ := hv
    exact .ptr (hg g hlt)
  | func f =>
    have hv : some (Value.func (.func f) #[] #[]) = some v := hv
    cases hv
    exact .func .nil .nil
theorem FrR.ok {F : T Value} {a : Act} (k : FrR N σ F a) (hg : ∀ g, g < P.globals.size → σ g = some (g, 0)) (xs : List Operand) : OK P σ F a xs := ok_of hg fun t _ v hv => k.get t v hv
theorem putF_some {F F' : T Value} {d : Option Tmp} {v : Value} (h : putF N F d v = some F') : (d = none ∧ F' = F) ∨ ∃ t, d = some t ∧ t < N ∧ F' = F.set t v := by
  cases d with
  | none => have h : some F = some F' := h; cases h; exact .inl ⟨rfl, rfl⟩
  | some t =>
    have h : bt (Nat.blt t N) (some (F.set t v)) = some F' := h
    simp only [bt_some, blt_iff, Option.some.injEq] at h
    exact .inr ⟨t, rfl, h.1, h.2.symm⟩
theorem put_size (a : Act) (d : Option Tmp) (v : Value) : (a.put d v).tmps.size = a.tmps.size := by cases d <;> simp [Act.put]
theorem put_defs (a : Act) (d : Option Tmp) (v : Value) : (a.put d v).defers = a.defers := by cases d <;> rfl
theorem put_get (a : Act) (d : Option Tmp) (v : Value) (t : Nat) (h : d ≠ some t) : (a.put d v).tmps[t]? = a.tmps[t]? := by
  cases d with
  | none => rfl
  | some d => simp only [Act.put, Array.getElem?_setIfInBounds]; rw [if_neg (fun e => h (by rw [e]))]
theorem put_self (a : Act) (t : Nat) (v : Value) (h : t < a.tmps.size) : (a.put (some t) v).tmps[t]? = some v := by simp [Act.put, h]
theorem FrR.put {F F' : T Value} {a : Act} (k : FrR N σ F a) {d : Option Tmp} {v v' : Value} (h : putF N F d v = some F') (hv : VR σ v v') : FrR N σ F' (a.put d v') := by
  refine ⟨by rw [put_size]; exact k.size, fun t u hu => ?_⟩
  rcases putF_some h with ⟨rfl, rfl⟩ | ⟨q, rfl, hq, rfl⟩
  · exact k.get t u hu
  · rw [get_set] at hu
    split at hu
    · rename_i e; subst e; cases hu
      exact ⟨v', put_self a t v' (by rw [k.size]; exact hq), hv⟩
    · rename_i e
      rw [put_get a _ v' t (fun hh => e (by cases hh; rfl))]
      exact k.get t u hu
theorem wantB_run {want : Bool} {v v' : Value} (h : VR σ v v') (hs : sure v = true) : wantB want v = (boolOf v' == some want) := by
  have hq := not_sure h hs
  clear hs
  cases h with
  | sym => exact absurd (hq _ _ rfl) noSYM
  | any => exact absurd (hq _ _ rfl) noUNK
  | emp => exact absurd (hq _ _ rfl) noUNK
  | ext => exact absurd (hq _ _ rfl) noEXT
  | exl => exact absurd (hq _ _ rfl) noEXL
  | mnil => exact absurd (hq _ _ rfl) noMN
  | mn => exact absurd (hq _ _ rfl) noMN
  | flat e => cases v <;> first | rfl | (rename_i b; cases b <;> cases want <;> rfl)
  | _ => rfl
theorem guardOf_some {all : List Oper} {j d : Nat} (h : guardOf all j = some d) : ((⟨all⟩ : Array Oper)[j]?).bind (·.dst) = some d := by
  simp only [guardOf, ob_some, lget_eq] at h
  obtain ⟨g, hg, hd⟩ := h
  have : (⟨all⟩ : Array Oper)[j]? = some g := by simpa using hg
  rw [this]; exact hd
theorem wanted_run {all : List Oper} {o : Oper} {F : T Value} {a : Act} {b : Bool} (h : wantedA all o F = some b)
    (hF : ∀ j want d, o.guard = some (j, want) → guardOf all j = some d → ∀ v, F.get d = some v → ∃ v', a.tmps[d]? = some v' ∧ VR σ v v') : Region.wanted o (yielded ⟨all⟩ a.tmps) = b := by
  unfold wantedA at h
  unfold Region.wanted
  cases hg : o.guard with
  | none => rw [hg] at h; cases h; rfl
  | some g =>
    obtain ⟨j, want⟩ := g
    rw [hg] at h
    have h : (ob (guardOf all j) fun d => ob (F.get d) fun v => bt (sure v) (some (wantB want v))) = some b := h
    simp only [ob_some, bt_some, Option.some.injEq] at h
    obtain ⟨d, hd, v, hv, hsv, rfl⟩ := h
    obtain ⟨v', h1, h2⟩ := hF j want d hg hd v hv
    simp only [yielded, guardOf_some hd, Option.bind_some, h1]
    rw [wantB_run h2 hsv]
    cases v' <;> rfl
def Good (P : Program) [Frozen P] (σ : Sg) (A : AW) (w : World) (v : Value) (A' : AW) (v' : Value) (w' : World) : Prop := ∃ σ', VR σ' v v' ∧ Rel P σ' A' w' ∧ Step σ A w σ' A' w'
def GoodE (P : Program) [Frozen P] (σ : Sg) (A : AW) (w : World) (v : Value) (A' : AW) : Ending → World → Prop
  | .returned v', w' => Good P σ A w v A' v' w'
  | _, _ => False
def Serves (P : Program) [Frozen P] (σ : Sg) (A : AW) (w : World) (r : Result Next) (v : Value) (A' : AW) : Prop :=
  (∃ v' w', r = .ok (.value v') w' ∧ Good P σ A w v A' v' w') ∨ ∃ f args, r = .ok (.enter f args) w ∧ Calls P f args w (GoodE P σ A w v A')
def CallOK (P : Program) [Frozen P] (call : Caller) : Prop := ∀ f args A v A', call f args A = some (v, A') → ∀ σ w args', Rel P σ A w → VRL σ args args' → Serves P σ A w ((callFunc f ⟨args'⟩).run P w) v A'
theorem loud_wp (hcall : CallOK P call) (hR : Rel P σ A w) {o : Oper} {a : Act} {F : T Value} {ds ds' : List Deferred} {v : Value} (hO : OK P σ F a o.op.operands.toList) (hD : DRL σ ds a.defers)
    (h : doFx call ds (evE o.op P F A) = some (v, A', ds')) {next : Act → World → Prop} {Q : Exit → Act → World → Prop}
    (hn : ∀ v' (a' : Act) σ' w', a'.tmps = a.tmps → DRL σ' ds' a'.defers → VR σ' v v' → Rel P σ' A' w' → Step σ A w σ' A' w' → next (a'.put o.dst v') w') : o.wp P a w next Q := by
  simp only [doFx, ob_some] at h
  obtain ⟨f, hf, h⟩ := h
  have hfine := evE_sound hR hO hf
  unfold Oper.wp
  generalize (execOp a.eval o).run P w = r at hfine ⊢
  cases f with
  | val u B =>
    have h : some (u, B, ds) = some (v, A', ds') := h
    cases h
    obtain ⟨v', σ', w', hr, hv, hR', hS⟩ := hfine
    have := hn v' a σ' w' rfl (hD.sub (hS.sub hR.lim)) hv hR' hS
    rcases hr with rfl | ⟨rfl, rfl⟩
    · exact this
    · exact this
  | enter f args B =>
    have h : (ob (call f args B) fun p => some (p.1, p.2, ds)) = some (v, A', ds') := h
    simp only [ob_some, Option.some.injEq] at h
    obtain ⟨⟨u, C⟩, hc, h⟩ := h
    cases h
    obtain ⟨rfl, args', ha, rfl⟩ := hfine
    rcases hcall f args B u C hc σ w args' hR ha with ⟨v', w', hr, σ', hv, hR', hS⟩ | ⟨g, as_, hr, hC⟩
    · rw [hr]; exact hn v' a σ' w' rfl (hD.sub (hS.sub hR.lim)) hv hR' hS
    · rw [hr, Oper.upon_enter]
      refine Calls.mono hC fun e w' he => ?_
      cases e with
      | returned v' => obtain ⟨σ', hv, hR', hS⟩ := he; exact hn v' a σ' w' rfl (hD.sub (hS.sub hR.lim)) hv hR' hS
      | _ => exact he.elim
  | defr d B =>
    have h : some (Value.tuple #[], B, d :: ds) = some (v, A', ds') := h
    cases h
    obtain ⟨rfl, fn, cap, cap', args, args', rfl, hc, ha, rfl⟩ := hfine
    exact hn undef { a with defers := _ :: a.defers } σ w rfl (.cons hc ha hD) .undef hR (.refl hR.lim)
structure SR (P : Program) [Frozen P] (N : Nat) (σ : Sg) (s : St) (a : Act) (w : World) : Prop where
  fr : FrR N σ s.F a
  rel : Rel P σ s.A w
  ds : DRL σ s.ds a.defers
theorem evE_defr {o : Op} {F : T Value} {A B : AW} {d : Deferred} (h : evE o P F A = some (.defr d B)) : ∃ c, o = .defer c := by
  cases o <;> simp only [evE] at h <;> try (cases h; done)
  case defer c => exact ⟨c, rfl⟩
  case alloc e => simp only [eAlloc, newPtr, ob_some, Option.some.injEq] at h; obtain ⟨z, _, h⟩ := h; cases h
  case box e x => simp only [eBox, newPtr, ob_some, bt_some, Option.some.injEq] at h; obtain ⟨z, _, _, h⟩ := h; cases h
  case buildSlice t n ps => simp only [eBuildSlice, ob_some, fxv_some] at h; obtain ⟨_, _, _, _, _, h⟩ := h; cases h
  case store t x y => simp only [eStore, ob_some, fxu_some] at h; obtain ⟨_, _, _, _, _, _, h⟩ := h; cases h
  case insert t m k v => simp only [eUpdate, ob_some, fxu_some] at h; obtain ⟨_, _, _, _, _, _, _, _, h⟩ := h; cases h
  case mapUpdate t m k v => simp only [eUpdate, ob_some, fxu_some] at h; obtain ⟨_, _, _, _, _, _, _, _, h⟩ := h; cases h
  case makeMap t r =>
    cases r with
    | none => cases h
    | some x =>
      have h : (ob (mapT P t) fun _ => ob (opnd P F x) fun v => ob (numV v) fun _ => some (Fx.val (.map (some A.next)) (A.add (.map [] 0)))) = some (.defr d B) := h
      simp only [ob_some, Option.some.injEq] at h
      obtain ⟨_, _, _, _, _, _, h⟩ := h; cases h
  case makeSlice t l c => simp only [eMakeSlice, ob_some, fxv_some] at h; obtain ⟨_, _, _, _, _, _, _, h⟩ := h; cases h
  case convert s e x => simp only [eConv, ob_some, fxv_some] at h; obtain ⟨_, _, _, _, _, h⟩ := h; cases h
  case call c =>
    obtain ⟨cal, args, ats⟩ := c
    cases cal with
    | value g =>
      have h : (ob (opnds P F args.toList) fun args => ob (opnd P F g) fun v => match v with
        | .func (.func f) first cap => some (Fx.enter f ((first.toList ++ args) ++ cap.toList) A)
        | _ => none) = some (.defr d B) := h
      simp only [ob_some] at h
      obtain ⟨_, _, _, _, h⟩ := h
      split at h <;> cases h
    | invoke r m => cases h
    | builtin b =>
      have two : ∀ (g : Program → TypeId → Option TypeId → AW → Value → Value → Option Fx), eTwo g ⟨.builtin b, args, ats⟩ P F A = some (.defr d B) → ∃ t u x y, g P t u A x y = some (.defr d B) := by
        intro g hq
        unfold eTwo at hq
        split at hq
        · simp only [ob_some] at hq
          obtain ⟨t, _, u, _, v, _, hq⟩ := hq
          exact ⟨_, _, _, _, hq⟩
        · cases hq
      cases b <;> simp only [eCall, eBuiltin] at h <;> try (cases h; done)
      case append => obtain ⟨_, _, _, _, hq⟩ := two _ h; simp only [gAppend, fxv_some] at hq; obtain ⟨_, _, _, hq⟩ := hq; cases hq
      case copy => obtain ⟨_, _, _, _, hq⟩ := two _ h; simp only [gCopy, fxv_some] at hq; obtain ⟨_, _, _, hq⟩ := hq; cases hq
      case delete => obtain ⟨_, _, _, _, hq⟩ := two _ h; simp only [gDelete, fxu_some] at hq; obtain ⟨_, _, hq⟩ := hq; cases hq
      case unsafeString => obtain ⟨_, _, _, _, hq⟩ := two _ h; simp only [gString, fxv_some] at hq; obtain ⟨_, _, _, hq⟩ := hq; cases hq
def QSem (P : Program) [Frozen P] (o : Oper) (F : T Value) (A : AW) (v : Value) : Prop := ∀ (σ : Sg) (w : World) (a : Act), Rel P σ A w → OK P σ F a o.op.operands.toList → ∃ v', VR σ v v' ∧ (execOp a.eval o).run P w = .ok (.value v') w
def LSem (P : Program) [Frozen P] (o : Oper) (F : T Value) (A : AW) (v : Value) (B : AW) : Prop := ∀ (σ : Sg) (w : World) (a : Act) (ds : List Deferred), Rel P σ A w → OK P σ F a o.op.operands.toList → DRL σ ds a.defers →
  ∀ (next : Act → World → Prop) (Q : Exit → Act → World → Prop), (∀ v' (a' : Act) σ' w', a'.tmps = a.tmps → DRL σ' ds a'.defers → VR σ' v v' → Rel P σ' B w' → Step σ A w σ' B w' → next (a'.put o.dst v') w') → o.wp P a w next Q
theorem QSem.of {o : Oper} {F : T Value} {A : AW} {v : Value} (h : evQ o.op P F A.heap = some v) : QSem P o F A v := fun _ _ _ hR hO => evQ_sound hR hO h
theorem doFx_ds {ds ds' : List Deferred} {v : Value} {B : AW} {x : Option Fx} (h : doFx call ds x = some (v, B, ds')) (hn : ∀ d C, x ≠ some (.defr d C)) (ds2 : List Deferred) : ds' = ds ∧ doFx call ds2 x = some (v, B, ds2) := by
  simp only [doFx, ob_some] at h
  obtain ⟨f, rfl, h⟩ := h
  cases f with
  | val u C => have h : some (u, C, ds) = some (v, B, ds') := h; cases h; exact ⟨rfl, rfl⟩
  | enter f args C =>
    have h : (ob (call f args C) fun p => some (p.1, p.2, ds)) = some (v, B, ds') := h
    simp only [ob_some, Option.some.injEq] at h
    obtain ⟨⟨u, D⟩, hc, h⟩ := h
    cases h
    refine ⟨rfl, ?_⟩
    show (ob (call f args C) fun p => some (p.1, p.2, ds2)) = _
    rw [hc]; rfl
  | defr d C => exact absurd rfl (hn d C)
theorem LSem.of (hcall : CallOK P call) {o : Oper} {F : T Value} {A B : AW} {v : Value} {ds ds' : List Deferred} (h : doFx call ds (evE o.op P F A) = some (v, B, ds')) (hn : ∀ d C, evE o.op P F A ≠ some (.defr d C)) : LSem P o F A v B := fun _ _ _ ds2 hR hO hD _ _ hnext =>
  loud_wp hcall hR hO hD (doFx_ds h hn ds2).2 hnext
theorem insOf_q {o : Op} {f : Program → T Value → T AO → Option Value} (h : insOf P o = .q f) : f = evQ o := by
  unfold insOf at h; cases hb : isE P o <;> rw [hb] at h <;> cases h; rfl
theorem insOf_e {o : Op} {f : Program → T Value → AW → Option Fx} (h : insOf P o = .e f) : f = evE o := by
  unfold insOf at h; cases hb : isE P o <;> rw [hb] at h <;> cases h; rfl
theorem stepOp_wp (hcall : CallOK P call) {all : List Oper} {o : Oper} {s s' : St} {i : Nat} (ho : (⟨all⟩ : Array Oper)[i]? = some o) {a : Act} (hS : SR P N σ s a w) (h : stepOp P call N all o s = some s') {K : Act → World → Prop} {Q : Exit → Act → World → Prop}
    (hK : ∀ σ' a' w', SR P N σ' s' a' w' → Step σ s.A w σ' s'.A w' → K a' w') : wpOp P ⟨all⟩ Q i K a w := by
  simp only [stepOp, ob_some] at h
  obtain ⟨b, hb, h⟩ := h
  have hw : Region.wanted o (yielded ⟨all⟩ a.tmps) = b := wanted_run (σ := σ) hb fun j want d _ _ v hv => hS.fr.get d v hv
  unfold wpOp
  simp only [ho, hw]
  have hO := hS.fr.ok hS.rel.glob o.op.operands.toList
  cases b with
  | false =>
    have h : stepU N o.dst s = some s' := h
    simp only [stepU, ob_some, Option.some.injEq] at h
    obtain ⟨F, hF, rfl⟩ := h
    simp only [Bool.false_eq_true, if_false]
    exact hK σ _ w ⟨hS.fr.put hF .undef, hS.rel, by rw [put_defs]; exact hS.ds⟩ (.refl hS.rel.lim)
  | true =>
    simp only [if_true]
    refine .inl ?_
    have h : (Ins.rec (fun f => stepQ P N o.dst f s) (fun f => stepE P call N o.dst f s) (insOf P o.op) : Option St) = some s' := h
    cases hi : insOf P o.op with
    | q f =>
      rw [hi] at h
      obtain rfl := insOf_q hi
      have h : stepQ P N o.dst (evQ o.op) s = some s' := h
      simp only [stepQ, ob_some, Option.some.injEq] at h
      obtain ⟨v, hv, F, hF, rfl⟩ := h
      obtain ⟨v', h1, h2⟩ := evQ_sound hS.rel hO hv
      unfold Oper.wp
      rw [h2, Oper.upon_value]
      exact hK σ _ w ⟨hS.fr.put hF h1, hS.rel, by rw [put_defs]; exact hS.ds⟩ (.refl hS.rel.lim)
    | e f =>
      rw [hi] at h
      obtain rfl := insOf_e hi
      have h : stepE P call N o.dst (evE o.op) s = some s' := h
      simp only [stepE, ob_some, Option.some.injEq] at h
      obtain ⟨⟨v, B, ds'⟩, hv, F, hF, rfl⟩ := h
      refine loud_wp hcall hS.rel hO hS.ds hv fun v' a' σ' w' ht hd hv' hR' hS' => ?_
      refine hK σ' _ w' ⟨?_, hR', by rw [put_defs]; exact hd⟩ hS'
      have hf := (hS.fr.sub (hS'.sub hS.rel.lim))
      have : FrR N σ' s.F a' := ⟨by rw [ht]; exact hf.size, by rw [ht]; exact hf.get⟩
      exact this.put hF hv'
theorem seqOps_cons {all : List Oper} {o : Oper} {os : List Oper} {s : St} : seqOps P call N all (o :: os) s = ob (stepOp P call N all o s) (seqOps P call N all os) := rfl
theorem seq_wp (hcall : CallOK P call) {all : List Oper} {Q : Exit → Act → World → Prop} : ∀ (os : List Oper) (i : Nat) (s s' : St) (σ : Sg) (a : Act) (w : World), all.drop i = os → SR P N σ s a w → seqOps P call N all os s = some s' →
    (∀ σ' a' w', SR P N σ' s' a' w' → Step σ s.A w σ' s'.A w' → Q .normal a' w') → wpOps P ⟨all⟩ Q (List.range' i os.length) a w := by
  intro os
  induction os with
  | nil =>
    intro i s s' σ a w _ hS h hQ
    have h : some s = some s' := h
    cases h
    exact hQ σ a w hS (.refl hS.rel.lim)
  | cons o os ih =>
    intro i s s' σ a w hd hS h hQ
    rw [seqOps_cons, ob_some] at h
    obtain ⟨s1, h1, h2⟩ := h
    have ho : (⟨all⟩ : Array Oper)[i]? = some o := by
      have : all[i]? = some o := by
        have := congrArg (fun l => l[0]?) hd
        simpa using this
      simpa using this
    rw [List.length_cons, List.range'_succ, wpOps_cons]
    refine stepOp_wp hcall ho hS h1 fun σ1 a1 w1 hS1 hst => ?_
    refine ih (i + 1) s1 s' σ1 a1 w1 ?_ hS1 h2 fun σ' a' w' hS' hst' => hQ σ' a' w' hS' (hst.trans hst')
    have := congrArg (List.drop 1) hd
    simpa [List.drop_drop, Nat.add_comm] using this
theorem region_wp (hcall : CallOK P call) {all : List Oper} {id : Nat} {Q : Exit → Act → World → Prop} {s s' : St} {a : Act} (hS : SR P N σ s a w) (h : seqOps P call N all all s = some s')
    (hQ : ∀ σ' a' w', SR P N σ' s' a' w' → Step σ s.A w σ' s'.A w' → Q .normal a' w') : (Code.region id ⟨all⟩ false).wp P Q a w := by
  refine wp_region ?_
  have := seq_wp hcall all 0 s s' σ a w rfl hS h hQ
  rwa [← List.range_eq_range'] at this
end Go.Ev
end

/- The evaluator: a region whose order is drawn: what was looked at. -/
section
set_option linter.unusedSectionVars false
namespace Go.Ev
open Go.RowKit (Below)
variable {P : Program} {σ σ' : Sg} {A A' : AW} {w w' : World} {N : Nat} {call : Caller} [Frozen P]
theorem tbit_eq (m i : Nat) : tbit m i = m.testBit i := by
  rw [Nat.testBit_eq_decide_div_mod_eq]
  unfold tbit
  have h1 : Nat.mod (Nat.div m (Nat.pow 2 i)) 2 = m / 2 ^ i % 2 := rfl
  rw [h1]
  rcases Nat.mod_two_eq_zero_or_one (m / 2 ^ i) with h | h <;> rw [h] <;> rfl
theorem maskOf_bit {ms : List Nat} {i : Nat} : ∀ {es : List Edge} {m : Nat}, tbit (maskOf ms es m) i = true → tbit m i = true ∨ ∃ e ∈ es, Region.binds .any e = true ∧ (e.on = i ∨ ∃ q, ms[e.on]? = some q ∧ tbit q i = true) := by
  intro es
  induction es with
  | nil => intro m h; exact .inl h
  | cons e es ih =>
    intro m h
    have h : tbit (Bool.rec (maskOf ms es m) (maskOf ms es (Nat.lor (Nat.lor m (Nat.pow 2 e.on)) ((lget ms e.on).getD 0))) (Region.binds .any e)) i = true := h
    cases hb : Region.binds .any e with
    | false =>
      rw [hb] at h
      rcases ih h with h | ⟨e', he, h1, h2⟩
      · exact .inl h
      · exact .inr ⟨e', by simp [he], h1, h2⟩
    | true =>
      rw [hb] at h
      rcases ih h with h | ⟨e', he, h1, h2⟩
      · rw [tbit_eq] at h
        have h : ((m ||| 2 ^ e.on) ||| (lget ms e.on).getD 0).testBit i = true := h
        rw [Nat.testBit_or, Nat.testBit_or, Nat.testBit_two_pow] at h
        simp only [Bool.or_eq_true, decide_eq_true_eq] at h
        rcases h with (h | h) | h
        · exact .inl (by rw [tbit_eq]; exact h)
        · exact .inr ⟨e, by simp, hb, .inl h⟩
        · refine .inr ⟨e, by simp, hb, .inr ?_⟩
          rw [lget_eq] at h
          cases hq : ms[e.on]? with
          | none => rw [hq] at h; simp at h
          | some q => rw [hq] at h; exact ⟨q, rfl, by rw [tbit_eq]; exact h⟩
      · exact .inr ⟨e', by simp [he], h1, h2⟩
def MaskOK (all : List Oper) (M : List Nat) : Prop := M.length = all.length ∧ ∀ (j : Nat) (o : Oper) (q : Nat), all[j]? = some o → M[j]? = some q → ∀ i, tbit q i = true → ∃ e ∈ o.after.toList, Region.binds .any e = true ∧ (e.on = i ∨ ∃ q', M[e.on]? = some q' ∧ tbit q' i = true)
theorem masks_ext : ∀ (os : List Oper) (ms : List Nat), ∃ tl, masks os ms = ms ++ tl ∧ tl.length = os.length ∧ ∀ (i : Nat) (o : Oper), os[i]? = some o → tl[i]? = some (maskOf (ms ++ tl.take i) o.after.toList 0) := by
  intro os
  induction os with
  | nil => intro ms; exact ⟨[], (List.append_nil ms).symm, rfl, fun i o h => by simp at h⟩
  | cons o os ih =>
    intro ms
    obtain ⟨tl, h1, h2, h3⟩ := ih (ms ++ [maskOf ms o.after.toList 0])
    refine ⟨maskOf ms o.after.toList 0 :: tl, ?_, by simp [h2], ?_⟩
    · show masks os (ms ++ [maskOf ms o.after.toList 0]) = _
      rw [h1]; simp
    · intro i o' ho
      cases i with
      | zero => simp at ho; subst ho; simp
      | succ i =>
        simp at ho
        have := h3 i o' ho
        simpa using this
theorem masks_ok (all : List Oper) : MaskOK all (masks all []) := by
  obtain ⟨tl, h1, h2, h3⟩ := masks_ext all []
  simp only [List.nil_append] at h1 h3
  rw [h1]
  refine ⟨h2, fun j o q ho hq i hi => ?_⟩
  have := h3 j o ho
  rw [hq] at this
  cases this
  rcases maskOf_bit hi with h | ⟨e, he, hb, h⟩
  · rw [tbit_eq] at h; simp at h
  · refine ⟨e, he, hb, h.imp id fun ⟨q, hq, ht⟩ => ⟨q, ?_, ht⟩⟩
    rw [List.getElem?_take] at hq
    split at hq
    · exact hq
    · cases hq
theorem closed_bit {all : List Oper} {M : List Nat} (hM : MaskOK all M) {L : Nat → Prop} (hlt : ∀ (j : Nat) (o : Oper), all[j]? = some o → ∀ e ∈ o.after.toList, Region.binds .any e = true → e.on < j)
    (hc : ∀ j, L j → ∀ o : Oper, all[j]? = some o → ∀ e ∈ o.after.toList, Region.binds .any e = true → L e.on) :
    ∀ (j : Nat) (o : Oper) (q : Nat), all[j]? = some o → M[j]? = some q → (∀ e ∈ o.after.toList, Region.binds .any e = true → L e.on) → ∀ i, tbit q i = true → L i := by
  intro j
  induction j using Nat.strongRecOn with
  | _ j ih =>
    intro o q ho hq hL i hi
    obtain ⟨e, he, hb, h⟩ := hM.2 j o q ho hq i hi
    rcases h with rfl | ⟨q', hq', hi'⟩
    · exact hL e he hb
    · have hlt' := hlt j o ho e he hb
      have hl : e.on < all.length := by
        have : e.on < M.length := (List.getElem?_eq_some_iff.1 hq').1
        rw [hM.1] at this; exact this
      have ho' : all[e.on]? = some all[e.on] := List.getElem?_eq_getElem hl
      exact ih e.on hlt' _ q' ho' hq' (hc e.on (hL e he hb) _ ho') i hi'
theorem andTrue {a b : Bool} : (a && b) = true ↔ a = true ∧ b = true := by cases a <;> cases b <;> simp
theorem recTrue {a b : Bool} : (Bool.rec false b a : Bool) = true ↔ a = true ∧ b = true := by cases a <;> simp
theorem impTrue {a b : Bool} : (Bool.rec true b a : Bool) = true ↔ (a = true → b = true) := by cases a <;> simp
theorem rowOk_get {all : List Oper} {y : Oper} {my : Nat} : ∀ {xs : List Oper} {i j : Nat}, rowOk P all y my xs i j = true → ∀ (k : Nat) (x : Oper), xs[k]? = some x → i + k < j → pairOk P all x y (i + k) my = true := by
  intro xs
  induction xs with
  | nil => intro i j _ k x h; simp at h
  | cons x0 xs ih =>
    intro i j h k x hx hlt
    have h : (Bool.rec true (Bool.rec false (rowOk P all y my xs (Nat.succ i) j) (pairOk P all x0 y i my)) (Nat.blt i j) : Bool) = true := h
    have hij : Nat.blt i j = true := blt_iff.2 (by omega)
    rw [hij] at h
    obtain ⟨h1, h2⟩ := recTrue.1 h
    cases k with
    | zero => simp at hx; subst hx; exact h1
    | succ k => simp at hx; have := ih h2 k x hx (by show i + 1 + k < j; omega); rw [show i + (k + 1) = Nat.succ i + k by show _ = i + 1 + k; omega]; exact this
structure RegOK (P : Program) [Frozen P] (all : List Oper) (M : List Nat) : Prop where
  nodefer : ∀ (j : Nat) (o : Oper), all[j]? = some o → notDefer o.op = true
  lt : ∀ (j : Nat) (o : Oper), all[j]? = some o → ∀ e ∈ o.after.toList, Region.binds .any e = true → e.on < j
  pair : ∀ (i j : Nat) (x y : Oper) (q : Nat), all[i]? = some x → all[j]? = some y → M[j]? = some q → i < j → (touch all x y || (loudB P x && loudB P y)) = true → tbit q i = true
theorem regOk_get {all : List Oper} : ∀ {ys : List Oper} {ms : List Nat} {j : Nat}, regOk P all ys ms j = true → ∀ (k : Nat) (y : Oper), ys[k]? = some y → ∃ m, ms[k]? = some m ∧ notDefer y.op = true ∧ edgesOk (j + k) y.after.toList = true ∧ rowOk P all y m all 0 (j + k) = true := by
  intro ys
  induction ys with
  | nil => intro ms j _ k y h; simp at h
  | cons y0 ys ih =>
    intro ms j h k y hy
    cases ms with
    | nil => cases h
    | cons m ms =>
      have h : (Bool.rec false (regOk P all ys ms (Nat.succ j)) (notDefer y0.op && (edgesOk j y0.after.toList && rowOk P all y0 m all 0 j)) : Bool) = true := h
      obtain ⟨h1, h2⟩ := recTrue.1 h
      rw [andTrue, andTrue] at h1
      cases k with
      | zero => simp at hy; subst hy; exact ⟨m, rfl, h1.1, h1.2.1, h1.2.2⟩
      | succ k =>
        simp at hy
        obtain ⟨q, h3, h4, h5, h6⟩ := ih h2 k y hy
        have e : Nat.succ j + k = j + (k + 1) := by show j + 1 + k = _; omega
        rw [e] at h5 h6
        exact ⟨q, by simpa using h3, h4, h5, h6⟩
theorem regOk_ok {all : List Oper} (h : regOk P all all (masks all []) 0 = true) : RegOK P all (masks all []) := by
  refine ⟨fun j o ho => ?_, fun j o ho e he hb => ?_, fun i j x y q hx hy hq hlt ht => ?_⟩
  · obtain ⟨m, _, h1, _⟩ := regOk_get h j o ho; exact h1
  · obtain ⟨m, _, _, h2, _⟩ := regOk_get h j o ho
    unfold edgesOk at h2
    rw [lall_iff] at h2
    have := impTrue.1 (h2 e he) hb
    rw [blt_iff] at this; omega
  · obtain ⟨m, hm, _, _, h3⟩ := regOk_get h j y hy
    rw [hq] at hm; cases hm
    have := rowOk_get h3 i x hx (by omega)
    unfold pairOk at this
    have h4 := impTrue.1 this
    simpa using h4 ht
theorem Rel.below (hR : Rel P σ A w) (hb : Below w.heap.size w w') : Rel P σ A w' ∧ Step σ A w σ A w' := by
  have hlt : ∀ b x, w.heap[b]? = some x → b < w.heap.size := fun b x h => (Array.getElem?_eq_some_iff.1 h).1
  refine ⟨⟨⟨fun i b d o hs hg hl => ?_, hR.inj, hR.lim, hR.glob, hR.top⟩, fun b x hx => ⟨?_, (hR.fro b x hx).2⟩⟩,
    ⟨fun _ _ => rfl, Nat.le_refl _, hb.os, hb.tape, hb.output, hb.size, fun b hb' _ => hb.block b hb', fun _ _ h => h, fun i b d o hle hs _ _ _ => ?_, fun i o _ hg hl => ⟨o, hg, hl⟩⟩⟩
  · obtain ⟨x, hx, ho⟩ := hR.obj i b d o hs hg hl
    exact ⟨x, by rw [hb.block b (hlt b x hx)]; exact hx, ho⟩
  · have h := (hR.fro b x hx).1
    rw [hb.block b (hlt b x h)]; exact h
  · rw [hR.lim i hle] at hs; cases hs
theorem get_none {α : Type} (i : Nat) : (T.e : T α).get i = none := by cases i <;> rfl
theorem no_get {i : Nat} {o : AO} (h : (T.e : T AO).get i = some o) : False := by rw [get_none] at h; cases h
theorem Rel.bare (hR : Rel P σ A w) : Rel P (fun i => if i < P.globals.size then some (i, 0) else none) ⟨.e, P.globals.size⟩ w :=
  ⟨⟨fun _ _ _ _ _ hg _ => (no_get hg).elim, fun _ _ _ _ _ _ _ _ _ hg _ _ _ _ => (no_get hg).elim, fun i hi => if_neg (by have : P.globals.size ≤ i := hi; omega), fun _ hg => if_pos hg, fun i _ => get_none i⟩,
    fun b x hx => ⟨(hR.fro b x hx).1, fun ⟨_, _, _, _, hg, _⟩ => no_get hg⟩⟩
theorem vrl_flats : ∀ {l l' : List Value}, VRL σ l l' → lall flat2 l = true → l' = l
  | [], _, h, _ => by cases h; rfl
  | a :: l, _, h, hf => by
    cases h with
    | cons a1 b1 =>
      have hf : (Bool.rec false (lall flat2 l) (flat2 a) : Bool) = true := hf
      cases ha : flat2 a with
      | false => rw [ha] at hf; cases hf
      | true =>
        rw [ha] at hf
        rw [a1.of_flat2 ha, vrl_flats b1 hf]
theorem vrl_refl_flats : ∀ {l : List Value}, lall flat2 l = true → VRL σ l l
  | [], _ => .nil
  | a :: l, hf => by
    have hf : (Bool.rec false (lall flat2 l) (flat2 a) : Bool) = true := hf
    cases ha : flat2 a with
    | false => rw [ha] at hf; cases hf
    | true =>
      rw [ha] at hf
      exact .cons (.refl_flat2 ha) (vrl_refl_flats hf)
def SoftSem (P : Program) [Frozen P] (o : Oper) (F : T Value) (v : Value) : Prop := flat2 v = true ∧ ∀ (σ : Sg) (A : AW) (w : World) (a : Act), Rel P σ A w → OK P σ F a o.op.operands.toList →
  ∀ (next : Act → World → Prop) (Q : Exit → Act → World → Prop), (∀ w', Below w.heap.size w w' → next (a.put o.dst v) w') → o.wp P a w next Q
theorem SoftSem.of (hcall : CallOK P call) {o : Oper} {F : T Value} {v : Value} (h : softV P call F o.op = some v) : SoftSem P o F v := by
  unfold softV at h
  split at h
  · rename_i c hc
    split at h
    · rename_i f hf
      simp only [ob_some, bt_some, Option.some.injEq] at h
      obtain ⟨vs, hvs, hfl, ⟨u, B⟩, hcl, hu, rfl⟩ := h
      refine ⟨hu, fun σ A w a hR hO next Q hn => ?_⟩
      have hev : evE o.op P F A = some (.enter f vs A) := by
        rw [hc]
        show eCall c P F A = _
        unfold eCall
        rw [hf]
        show eVal (.func f) c P F A = _
        simp only [eVal, hvs, ob_some, opnd]
        simp [ob]
      have hfine := evE_sound hR hO hev
      unfold Oper.wp
      generalize (execOp a.eval o).run P w = r at hfine ⊢
      obtain ⟨_, args', ha, rfl⟩ := hfine
      obtain rfl := vrl_flats ha hfl
      have hnw : ∀ b, ¬ Wr (fun i => if i < P.globals.size then some (i, 0) else none) (⟨.e, P.globals.size⟩ : AW) b := fun b ⟨_, _, _, _, hg, _⟩ => no_get hg
      rcases hcall f _ _ u B hcl _ w _ hR.bare (vrl_refl_flats hfl) with ⟨v', w', hr, σ', hv, hR', hS⟩ | ⟨g, as_, hr, hC⟩
      · rw [hr]
        obtain rfl := hv.of_flat2 hu
        exact hn w' ⟨hS.os, hS.tape, hS.output, hS.size, fun k hk => hS.block k hk (hnw k)⟩
      · rw [hr, Oper.upon_enter]
        refine Calls.mono hC fun e w' he => ?_
        cases e with
        | returned v' =>
          obtain ⟨σ', hv, hR', hS⟩ := he
          obtain rfl := hv.of_flat2 hu
          exact hn w' ⟨hS.os, hS.tape, hS.output, hS.size, fun k hk => hS.block k hk (hnw k)⟩
        | _ => exact he.elim
    · cases h
  · cases h
theorem soft_isE {o : Op} (h : isE P o = false) : softO P o = false := by
  cases hs : softO P o with
  | false => rfl
  | true =>
    unfold softO at hs
    split at hs
    · rename_i c
      split at hs
      · rename_i f hf
        have h : (match c.callee with
          | .builtin b => bnot (quietB b)
          | _ => true) = false := h
        rw [hf] at h; cases h
      · cases hs
    · cases hs
theorem made_soft {F : T Value} {o : Op} {id : Nat} {v : Value} (h : madeV P F o id = some v) : softO P o = false := by
  cases o <;> first | rfl | cases h
inductive What (P : Program) [Frozen P] (call : Caller) (all : List Oper) (ds : List Deferred) (o : Oper) (F : T Value) (A : AW) (h : Option Nat) : Value → AW → Bool → Prop
  | off : wantedA all o F = some false → What P call all ds o F A h (.tuple #[]) A (loudB P o)
  | made (id : Nat) {v : Value} : wantedA all o F = some true → h = some id → madeV P F o.op id = some v → What P call all ds o F A h v A false
  | quiet {v : Value} : wantedA all o F = some true → h = none → isE P o.op = false → QSem P o F A v → What P call all ds o F A h v A false
  | soft {v : Value} : wantedA all o F = some true → h = none → softO P o.op = true → SoftSem P o F v → What P call all ds o F A h v A false
  | loud {v : Value} {B : AW} : wantedA all o F = some true → h = none → isE P o.op = true → softO P o.op = false → LSem P o F A v B → What P call all ds o F A h v B true
inductive Passed (P : Program) [Frozen P] (call : Caller) (N : Nat) (all : List Oper) (ds : List Deferred) : List Oper → List (Option Nat) → Nat → T Value → AW → List Rc → List AW → T Value → AW → Prop
  | nil {hs : List (Option Nat)} {k : Nat} {F : T Value} {A : AW} : Passed P call N all ds [] hs k F A [] [] F A
  | quiet {o : Oper} {os : List Oper} {h : Option Nat} {hs : List (Option Nat)} {k : Nat} {F F1 F' : T Value} {A A' : AW} {v : Value} {rs : List Rc} {As : List AW} :
    What P call all ds o F A h v A false → putF N F o.dst v = some F1 → Passed P call N all ds os hs k F1 A rs As F' A' → Passed P call N all ds (o :: os) (h :: hs) k F A (⟨o, F, v, k, false⟩ :: rs) As F' A'
  | loud {o : Oper} {os : List Oper} {h : Option Nat} {hs : List (Option Nat)} {k : Nat} {F F1 F' : T Value} {A B A' : AW} {v : Value} {rs : List Rc} {As : List AW} :
    What P call all ds o F A h v B true → putF N F o.dst v = some F1 → Passed P call N all ds os hs (k + 1) F1 B rs As F' A' → Passed P call N all ds (o :: os) (h :: hs) k F A (⟨o, F, v, k, true⟩ :: rs) (B :: As) F' A'
theorem passed_of (hcall : CallOK P call) {all : List Oper} : ∀ (os : List Oper), (∀ o ∈ os, notDefer o.op = true) → ∀ (hs : List (Option Nat)) (k : Nat) (s s' : St) (rs : List Rc) (As : List AW), passOps P call N all os hs k s = some (rs, As, s') → s'.ds = s.ds ∧ Passed P call N all s.ds os hs k s.F s.A rs As s'.F s'.A := by
  intro os
  induction os with
  | nil =>
    intro _ hs k s s' rs As h
    have h : some ([], [], s) = some (rs, As, s') := h
    cases h
    exact ⟨rfl, .nil⟩
  | cons o os ih =>
    intro hnd hs k s s' rs As h
    have ih := ih fun o ho => hnd o (List.mem_cons_of_mem _ ho)
    have hnd := hnd o List.mem_cons_self
    cases hs with
    | nil => cases h
    | cons h0 hs =>
      have h : pOne P call N all o h0 k s (passOps P call N all os hs) = some (rs, As, s') := h
      simp only [pOne, ob_some] at h
      obtain ⟨b, hb, h⟩ := h
      have quiet : ∀ v, What P call all s.ds o s.F s.A h0 v s.A false → pQuiet N o v k s (passOps P call N all os hs) = some (rs, As, s') → s'.ds = s.ds ∧ Passed P call N all s.ds (o :: os) (h0 :: hs) k s.F s.A rs As s'.F s'.A := by
        intro v hw hq
        simp only [pQuiet, ob_some, Option.some.injEq, Prod.mk.injEq] at hq
        obtain ⟨F1, hF, ⟨rs1, As1, s1⟩, hp, rfl, hq⟩ := hq
        cases hq
        obtain ⟨e, hP⟩ := ih _ _ _ _ _ _ hp
        exact ⟨e, .quiet hw hF hP⟩
      have eff : ∀ v B, What P call all s.ds o s.F s.A h0 v B true → pEff N o v B k s (passOps P call N all os hs) = some (rs, As, s') → s'.ds = s.ds ∧ Passed P call N all s.ds (o :: os) (h0 :: hs) k s.F s.A rs As s'.F s'.A := by
        intro v B hw hq
        simp only [pEff, ob_some, Option.some.injEq, Prod.mk.injEq] at hq
        obtain ⟨F1, hF, ⟨rs1, As1, s1⟩, hp, rfl, rfl, rfl⟩ := hq
        obtain ⟨e, hP⟩ := ih _ _ _ _ _ _ hp
        exact ⟨e, .loud hw hF hP⟩
      cases b with
      | false =>
        have h : (Bool.rec (pQuiet N o (.tuple #[]) k s (passOps P call N all os hs)) (pEff N o (.tuple #[]) s.A k s (passOps P call N all os hs)) (loudB P o) : Pass) = some (rs, As, s') := h
        have hw := What.off (P := P) (call := call) (ds := s.ds) (A := s.A) (h := h0) hb
        cases hl : loudB P o with
        | false => rw [hl] at h hw; exact quiet _ hw h
        | true => rw [hl] at h hw; exact eff _ _ hw h
      | true =>
        have h : pWant P call N o h0 k s (passOps P call N all os hs) = some (rs, As, s') := h
        unfold pWant at h
        cases h0 with
        | some id =>
          have h : (ob (madeV P s.F o.op id) fun v => pQuiet N o v k s (passOps P call N all os hs)) = some (rs, As, s') := h
          rw [ob_some] at h
          obtain ⟨v, hv, h⟩ := h
          exact quiet v (.made id hb rfl hv) h
        | none =>
          cases hso : softO P o.op with
          | true =>
            have h : (ob (softV P call s.F o.op) fun v => pQuiet N o v k s (passOps P call N all os hs)) = some (rs, As, s') := by
              rw [hso] at h; exact h
            rw [ob_some] at h
            obtain ⟨v, hv, h⟩ := h
            exact quiet v (.soft hb rfl hso (.of hcall hv)) h
          | false =>
          rw [hso] at h
          cases hi : isE P o.op with
          | false =>
            have h : (ob (evQ o.op P s.F s.A.heap) fun v => pQuiet N o v k s (passOps P call N all os hs)) = some (rs, As, s') := by
              have hins : insOf P o.op = .q (evQ o.op) := by unfold insOf; rw [hi]
              rw [hins] at h; exact h
            rw [ob_some] at h
            obtain ⟨v, hv, h⟩ := h
            exact quiet v (.quiet hb rfl hi (.of hv)) h
          | true =>
            have h : (ob (doFx call s.ds (evE o.op P s.F s.A)) fun p => pEff N o p.1 p.2.1 k s (passOps P call N all os hs)) = some (rs, As, s') := by
              have hins : insOf P o.op = .e (evE o.op) := by unfold insOf; rw [hi]
              rw [hins] at h; exact h
            rw [ob_some] at h
            obtain ⟨⟨v, B, ds'⟩, hv, h⟩ := h
            exact eff v B (.loud hb rfl hi hso (.of hcall hv fun d C he => by obtain ⟨c, hc⟩ := evE_defr he; rw [hc] at hnd; cases hnd)) h
end Go.Ev
end
