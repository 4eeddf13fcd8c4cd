/- The evaluator with variables: regions, code, calls; it is sound. -/
import Derived.Test.YthcldogebnjohaaGreatDoorEv8
section
set_option linter.unusedSectionVars false
namespace Go.Ev
variable {P : Program} {N : Nat} [Frozen P]
abbrev CW := FuncId → List Value → AW → (Value → AW → Prop) → Prop
noncomputable section
def doFxW (cw : CW) (ds : List Deferred) (f : Fx) (K : Value → AW → List Deferred → Prop) : Prop := Fx.rec (fun v A => K v A ds) (fun f args A => cw f args A fun v A' => K v A' ds) (fun d A => K (.tuple #[]) A (d :: ds)) f
def stepW (P : Program) [Frozen P] (cw : CW) (N : Nat) (all : List Oper) (o : Oper) (s : St) (K : St → Prop) : Prop := cpo (wantedA all o s.F) fun b => Bool.rec (cpo (putF N s.F o.dst (.tuple #[])) fun F => K ⟨F, s.A, s.ds⟩)
  (Bool.rec (symQ P o.op s.F s.A.heap fun v => cpo (putF N s.F o.dst v) fun F => K ⟨F, s.A, s.ds⟩)
    (symE P o.op s.F s.A fun f => doFxW cw s.ds f fun v A ds => cpo (putF N s.F o.dst v) fun F => K ⟨F, A, ds⟩) (isE P o.op)) b
def seqW (P : Program) [Frozen P] (cw : CW) (N : Nat) (all : List Oper) (os : List Oper) : St → (St → Prop) → Prop := List.rec (motive := fun _ => St → (St → Prop) → Prop) (fun s K => K s) (fun o _ ih s K => stepW P cw N all o s fun s' => ih s' K) os
abbrev PassK := List Rc → List AW → St → Prop
abbrev PassW := List (Option Nat) → Nat → St → PassK → Prop
def quietW (N : Nat) (o : Oper) (v : Value) (k : Nat) (s : St) (ih : Nat → St → PassK → Prop) (K : PassK) : Prop := cpo (putF N s.F o.dst v) fun F => ih k ⟨F, s.A, s.ds⟩ fun rs As s' => K (⟨o, s.F, v, k, false⟩ :: rs) As s'
def effW (N : Nat) (o : Oper) (v : Value) (A : AW) (k : Nat) (s : St) (ih : Nat → St → PassK → Prop) (K : PassK) : Prop := cpo (putF N s.F o.dst v) fun F => ih (Nat.succ k) ⟨F, A, s.ds⟩ fun rs As s' => K (⟨o, s.F, v, k, true⟩ :: rs) (A :: As) s'
def doFxD (cw : CW) (f : Fx) (K : Value → AW → Prop) : Prop := Fx.rec (fun v A => K v A) (fun f args A => cw f args A K) (fun _ _ => False) f
def wantW (P : Program) [Frozen P] (cw : CW) (N : Nat) (o : Oper) (h : Option Nat) (k : Nat) (s : St) (ih : Nat → St → PassK → Prop) (K : PassK) : Prop := Option.rec
  (Bool.rec (symQ P o.op s.F s.A.heap fun v => quietW N o v k s ih K) (cpb (bnot (softO P o.op)) (symE P o.op s.F s.A fun f => doFxD cw f fun v A => effW N o v A k s ih K)) (isE P o.op))
  (fun id => cpo (madeV P s.F o.op id) fun v => quietW N o v k s ih K) h
def oneW (P : Program) [Frozen P] (cw : CW) (N : Nat) (all : List Oper) (o : Oper) (h : Option Nat) (k : Nat) (s : St) (ih : Nat → St → PassK → Prop) (K : PassK) : Prop := cpo (wantedA all o s.F) fun b => Bool.rec
  (Bool.rec (quietW N o (.tuple #[]) k s ih K) (effW N o (.tuple #[]) s.A k s ih K) (loudB P o)) (wantW P cw N o h k s ih K) b
def passW (P : Program) [Frozen P] (cw : CW) (N : Nat) (all : List Oper) (os : List Oper) : PassW := List.rec (motive := fun _ => PassW) (fun _ _ s K => K [] [] s)
  (fun o _ ih hs k s K => match hs with
    | [] => False
    | h :: hs => oneW P cw N all o h k s (ih hs) K) os
def againW (P : Program) [Frozen P] (r : Rc) (h : Option Nat) (Ao A : AW) : Prop := Option.rec (cpo (looksAt P r.F r.o.op) fun x => Option.rec True (fun b => A.heap.get b = Ao.heap.get b) x) (fun id => cpb (freshAt P r.F r.o.op id A.heap) True) h
def winW (P : Program) [Frozen P] (all : List Oper) (r : Rc) (h : Option Nat) (lo hi : Nat) (Ao : AW) (As : List AW) : Nat → Prop := List.rec (motive := fun _ => Nat → Prop) (fun _ => True)
  (fun A _ ih k => Bool.rec (ih (Nat.succ k)) (againW P r h Ao A ∧ ih (Nat.succ k)) (Nat.ble lo k && (Nat.ble k hi && bnot (isOwn h r k)))) As
def winsW (P : Program) [Frozen P] (all : List Oper) (es : List (Nat × Nat)) (As : List AW) (rs : List Rc) : List (Option Nat) → List Nat → Nat → Prop :=
  List.rec (motive := fun _ => List (Option Nat) → List Nat → Nat → Prop) (fun _ _ _ => True)
    (fun r _ ih hs ms i => match hs with
      | [] => False
      | h :: hs => match ms with
        | [] => False
        | m :: ms => (Bool.rec (cpo (wantedA all r.o r.F) fun b => Bool.rec True (cpo (lget As r.at_) fun Ao => winW P all r h (loOf m es 0 0) (hiOf i es 0) Ao As 0) b) True r.loud) ∧ ih hs ms (Nat.succ i)) rs
def preStep (P : Program) (N : Nat) (all : List Oper) (o : Oper) (s : St) : St := Option.rec s (fun x => x) (stepOp P (evCall P ⟨[], [], [], 0⟩ 8) N all o s)
def preW (P : Program) (N : Nat) (ops : List Oper) (s : St) : T Value := Bool.rec s.F (St.F (List.rec (motive := fun _ => St → St) (fun s => s) (fun o _ ih s => ih (preStep P N ops o s)) ops s)) (anyMake ops)
def drawW (P : Program) [Frozen P] (cw : CW) (N : Nat) (ops : List Oper) (s : St) (K : St → Prop) : Prop := cpb (regOk P ops ops (masks ops []) 0) (cpo (hoist P (preW P N ops s) ops s.A) fun h =>
  passW P cw N ops ops h.1 0 ⟨s.F, h.2, s.ds⟩ fun rs As s' => winsW P ops (louds P ops (masks ops []) 0) (h.2 :: As) rs h.1 (masks ops []) 0 ∧ K s')
end
def FnSem (P : Program) [Frozen P] (f : FuncId) (args : List Value) (A : AW) (v : Value) (A' : AW) : Prop := ∀ (σ : Sg) (w : World) (args' : List Value), Rel P σ A w → VRL σ args args' → Serves P σ A w ((callFunc f ⟨args'⟩).run P w) v A'
def CwOK (P : Program) [Frozen P] (cw : CW) : Prop := ∀ f args A K, cw f args A K → ∃ v A', K v A' ∧ FnSem P f args A v A'
def LSemD (P : Program) [Frozen P] (o : Oper) (F : T Value) (A : AW) (ds : List Deferred) (v : Value) (B : AW) (ds' : List Deferred) : Prop := ∀ (σ : Sg) (w : World) (a : Act), Rel P σ A w → OK P σ F a o.op.operands.toList → DRL σ ds a.defers →
  ∀ (next : Act → World → Prop) (Q : Exit → Act → World → Prop), (∀ v' (a' : Act) σ' w', a'.tmps = a.tmps → DRL σ' ds' a'.defers → VR σ' v v' → Rel P σ' B w' → Step σ A w σ' B w' → next (a'.put o.dst v') w') → o.wp P a w next Q
variable {cw : CW}
theorem fx_val {o : Oper} {F : T Value} {A B : AW} {ds : List Deferred} {v : Value} (h : FSem P o F A (.val v B)) : LSemD P o F A ds v B ds := by
  intro σ w a hR hO hD next Q hn
  have hfine := h σ w a hR hO
  unfold Oper.wp
  generalize (execOp a.eval o).run P w = r at hfine ⊢
  obtain ⟨v', σ', w', hr, hv, hR', hS⟩ := hfine
  have := hn v' a σ' w' rfl (hD.sub (hS.sub hR.lim)) hv hR' hS
  rcases hr with rfl | ⟨rfl, rfl⟩
  · exact this
  · exact this
theorem fx_enter {o : Oper} {F : T Value} {A B C : AW} {ds : List Deferred} {f : FuncId} {args : List Value} {v : Value} (h : FSem P o F A (.enter f args B)) (hc : FnSem P f args B v C) (hAB : ∀ σ w a, Rel P σ A w → OK P σ F a o.op.operands.toList → B = A) : LSemD P o F A ds v C ds := by
  intro σ w a hR hO hD next Q hn
  have hfine := h σ w a hR hO
  unfold Oper.wp
  generalize (execOp a.eval o).run P w = r at hfine ⊢
  obtain ⟨rfl, args', ha, rfl⟩ := hfine
  rcases hc σ w args' hR ha with ⟨v', w', hr, σ', hv, hR', hS⟩ | ⟨g, as_, hr, hC⟩
  · rw [hr]; exact hn v' a σ' w' rfl (hD.sub (hS.sub hR.lim)) hv hR' hS
  · rw [hr, Oper.upon_enter]
    refine Calls.mono hC fun e w' he => ?_
    cases e with
    | returned v' => obtain ⟨σ', hv, hR', hS⟩ := he; exact hn v' a σ' w' rfl (hD.sub (hS.sub hR.lim)) hv hR' hS
    | _ => exact he.elim
theorem fx_defr {o : Oper} {F : T Value} {A B : AW} {ds : List Deferred} {d : Deferred} (h : FSem P o F A (.defr d B)) (hAB : ∀ σ w a, Rel P σ A w → OK P σ F a o.op.operands.toList → B = A) : LSemD P o F A ds (.tuple #[]) B (d :: ds) := by
  intro σ w a hR hO hD next Q hn
  have hfine := h σ w a hR hO
  unfold Oper.wp
  generalize (execOp a.eval o).run P w = r at hfine ⊢
  obtain ⟨rfl, fn, cap, cap', args, args', rfl, hc, ha, rfl⟩ := hfine
  exact hn undef { a with defers := _ :: a.defers } σ w rfl (.cons hc ha hD) .undef hR (.refl hR.lim)
theorem fs_same {o : Oper} {F : T Value} {A B : AW} {f : FuncId} {args : List Value} (h : FSem P o F A (.enter f args B)) : ∀ σ w a, Rel P σ A w → OK P σ F a o.op.operands.toList → B = A := fun σ w a hR hO => (h σ w a hR hO).1
theorem fd_same {o : Oper} {F : T Value} {A B : AW} {d : Deferred} (h : FSem P o F A (.defr d B)) : ∀ σ w a, Rel P σ A w → OK P σ F a o.op.operands.toList → B = A := fun σ w a hR hO => (h σ w a hR hO).1
theorem doFxW_sound (hcw : CwOK P cw) {o : Oper} {F : T Value} {A : AW} {ds : List Deferred} {f : Fx} {K : Value → AW → List Deferred → Prop} (hf : FSem P o F A f) (h : doFxW cw ds f K) : ∃ v B ds', K v B ds' ∧ LSemD P o F A ds v B ds' := by
  cases f with
  | val v B => exact ⟨v, B, ds, h, fx_val hf⟩
  | enter f args B =>
    obtain ⟨v, C, hK, hc⟩ := hcw _ _ _ _ h
    exact ⟨v, C, ds, hK, fx_enter hf hc (fs_same hf)⟩
  | defr d B => exact ⟨_, B, _, h, fx_defr hf (fd_same hf)⟩
theorem doFxD_sound (hcw : CwOK P cw) {o : Oper} {F : T Value} {A : AW} {f : Fx} {K : Value → AW → Prop} (hf : FSem P o F A f) (h : doFxD cw f K) : ∃ v B, K v B ∧ LSem P o F A v B := by
  cases f with
  | val v B => exact ⟨v, B, h, fun σ w a ds => fx_val (ds := ds) hf σ w a⟩
  | enter f args B =>
    obtain ⟨v, C, hK, hc⟩ := hcw _ _ _ _ h
    exact ⟨v, C, hK, fun σ w a ds => fx_enter (ds := ds) hf hc (fs_same hf) σ w a⟩
  | defr d B => exact False.elim h
theorem stepW_sound (hcw : CwOK P cw) {all : List Oper} {o : Oper} {s : St} {K : St → Prop} (h : stepW P cw N all o s K) : ∃ s', K s' ∧ ∀ (i : Nat) (σ : Sg) (a : Act) (w : World), (⟨all⟩ : Array Oper)[i]? = some o → SR P N σ s a w →
    ∀ (Kw : Act → World → Prop) (Q : Exit → Act → World → Prop), (∀ σ' a' w', SR P N σ' s' a' w' → Step σ s.A w σ' s'.A w' → Kw a' w') → wpOp P ⟨all⟩ Q i Kw a w := by
  unfold stepW at h
  rw [cpo_iff] at h
  obtain ⟨b, hb, h⟩ := h
  cases b with
  | false =>
    obtain ⟨F, hF, hK⟩ := cpo_iff.1 h
    refine ⟨_, hK, fun i σ a w ho hS Kw Q hn => ?_⟩
    have hw : Region.wanted o (yielded ⟨all⟩ a.tmps) = false := wanted_run (σ := σ) hb fun j want d _ _ v hv => hS.fr.get d v hv
    unfold wpOp
    simp only [ho, hw, Bool.false_eq_true, if_false]
    exact hn σ _ w ⟨hS.fr.put hF .undef, hS.rel, by rw [put_defs]; exact hS.ds⟩ (.refl hS.rel.lim)
  | true =>
    have h : (Bool.rec (symQ P o.op s.F s.A.heap fun v => cpo (putF N s.F o.dst v) fun F => K ⟨F, s.A, s.ds⟩)
      (symE P o.op s.F s.A fun f => doFxW cw s.ds f fun v A ds => cpo (putF N s.F o.dst v) fun F => K ⟨F, A, ds⟩) (isE P o.op) : Prop) := h
    cases hi : isE P o.op with
    | false =>
      rw [hi] at h
      obtain ⟨v, hK, hQ⟩ := symQ_sound (show symQ P o.op s.F s.A.heap _ from h)
      obtain ⟨F, hF, hK⟩ := cpo_iff.1 hK
      refine ⟨_, hK, fun i σ a w ho hS Kw Q hn => ?_⟩
      have hw : Region.wanted o (yielded ⟨all⟩ a.tmps) = true := wanted_run (σ := σ) hb fun j want d _ _ v hv => hS.fr.get d v hv
      unfold wpOp
      simp only [ho, hw, if_true]
      refine .inl ?_
      obtain ⟨v', h1, h2⟩ := hQ σ w a hS.rel (hS.fr.ok hS.rel.glob _)
      unfold Oper.wp
      rw [h2, Oper.upon_value]
      exact hn σ _ w ⟨hS.fr.put hF h1, hS.rel, by rw [put_defs]; exact hS.ds⟩ (.refl hS.rel.lim)
    | true =>
      rw [hi] at h
      obtain ⟨f, h, hf⟩ := symE_sound (show symE P o.op s.F s.A _ from h)
      obtain ⟨v, B, ds', hK, hL⟩ := doFxW_sound hcw hf h
      obtain ⟨F, hF, hK⟩ := cpo_iff.1 hK
      refine ⟨_, hK, fun i σ a w ho hS Kw Q hn => ?_⟩
      have hw : Region.wanted o (yielded ⟨all⟩ a.tmps) = true := wanted_run (σ := σ) hb fun j want d _ _ v hv => hS.fr.get d v hv
      unfold wpOp
      simp only [ho, hw, if_true]
      refine .inl ?_
      refine hL σ w a hS.rel (hS.fr.ok hS.rel.glob _) hS.ds _ _ fun v' a' σ' w' ht hd hv' hR' hS' => ?_
      refine hn σ' _ w' ⟨?_, hR', by rw [put_defs]; exact hd⟩ hS'
      have hf := (hS.fr.sub (hS'.sub hS.rel.lim))
      have : FrR N σ' s.F a' := ⟨by rw [ht]; exact hf.size, by rw [ht]; exact hf.get⟩
      exact this.put hF hv'
theorem seqW_sound (hcw : CwOK P cw) {all : List Oper} : ∀ (os : List Oper) (i : Nat) (s : St) (K : St → Prop), all.drop i = os → seqW P cw N all os s K → ∃ s', K s' ∧ ∀ (σ : Sg) (a : Act) (w : World), SR P N σ s a w →
    ∀ (Q : Exit → Act → World → Prop), (∀ σ' a' w', SR P N σ' s' a' w' → Step σ s.A w σ' s'.A w' → Q .normal a' w') → wpOps P ⟨all⟩ Q (List.range' i os.length) a w := by
  intro os
  induction os with
  | nil => intro i s K _ h; exact ⟨s, h, fun σ a w hS Q hQ => hQ σ a w hS (.refl hS.rel.lim)⟩
  | cons o os ih =>
    intro i s K hd h
    have h : stepW P cw N all o s fun s' => seqW P cw N all os s' K := h
    obtain ⟨s1, h1, hop⟩ := stepW_sound hcw h
    obtain ⟨s', hK, hrest⟩ := ih (i + 1) s1 K (by
      have := congrArg (List.drop 1) hd
      simpa [List.drop_drop, Nat.add_comm] using this) h1
    refine ⟨s', hK, fun σ a w hS Q hQ => ?_⟩
    have ho : (⟨all⟩ : Array Oper)[i]? = some o := by
      have : all[i]? = some o := by
        have := congrArg (fun l => l[0]?) hd
        simpa using this
      simpa using this
    rw [List.length_cons, List.range'_succ, wpOps_cons]
    exact hop i σ a w ho hS _ _ fun σ1 a1 w1 hS1 hst => hrest σ1 a1 w1 hS1 Q fun σ' a' w' hS' hst' => hQ σ' a' w' hS' (hst.trans hst')
end Go.Ev
end

/- The evaluator with variables: regions whose order is drawn. -/
section
set_option linter.unusedSectionVars false
namespace Go.Ev
variable {P : Program} {N : Nat} {cw : CW} [Frozen P]
def Kept (P : Program) [Frozen P] (all : List Oper) (k : Nat) (As : List AW) (hs : List (Option Nat)) (rs : List Rc) : Prop := ∀ (i : Nat) (r : Rc), rs[i]? = some r → r.loud = false → hs[i]? = some none → wantedA all r.o r.F = some true → k ≤ r.at_ ∧ ∃ A1, As[r.at_ - k]? = some A1 ∧ symQ P r.o.op r.F A1.heap fun u => u = r.v
theorem passW_sound (hcw : CwOK P cw) {call : Caller} {all : List Oper} : ∀ (os : List Oper) (hs : List (Option Nat)) (k : Nat) (s : St) (K : PassK), passW P cw N all os hs k s K →
    ∃ rs As s', s'.ds = s.ds ∧ Passed P call N all s.ds os hs k s.F s.A rs As s'.F s'.A ∧ Kept P all k (s.A :: As) hs rs ∧ K rs As s' := by
  intro os
  induction os with
  | nil => intro hs k s K h; exact ⟨[], [], s, rfl, .nil, fun i r hr => by simp at hr, h⟩
  | cons o os ih =>
    intro hs k s K h
    cases hs with
    | nil => exact False.elim h
    | cons h0 hs =>
      have h : oneW P cw N all o h0 k s (passW P cw N all os hs) K := h
      unfold oneW at h
      rw [cpo_iff] at h
      obtain ⟨b, hb, h⟩ := h
      have quiet : ∀ v, What P call all s.ds o s.F s.A h0 v s.A false → (h0 = none → b = true → symQ P o.op s.F s.A.heap fun u => u = v) → quietW N o v k s (passW P cw N all os hs) K → ∃ rs As s', s'.ds = s.ds ∧ Passed P call N all s.ds (o :: os) (h0 :: hs) k s.F s.A rs As s'.F s'.A ∧ Kept P all k (s.A :: As) (h0 :: hs) rs ∧ K rs As s' := by
        intro v hw hkeep hq
        obtain ⟨F, hF, hq⟩ := cpo_iff.1 hq
        obtain ⟨rs, As, s', e, hp, hk, hK⟩ := ih _ _ _ _ hq
        refine ⟨_, As, s', e, .quiet hw hF hp, ?_, hK⟩
        intro i r hr hl hh hwt
        cases i with
        | zero =>
          simp at hr hh; subst hr
          simp only at hwt
          rw [hb] at hwt
          exact ⟨Nat.le_refl _, s.A, by simp, hkeep hh (Option.some.inj hwt)⟩
        | succ i =>
          have := hk i r (by simpa using hr) hl (by simpa using hh) hwt
          exact this
      have eff : ∀ v B, What P call all s.ds o s.F s.A h0 v B true → effW N o v B k s (passW P cw N all os hs) K → ∃ rs As s', s'.ds = s.ds ∧ Passed P call N all s.ds (o :: os) (h0 :: hs) k s.F s.A rs As s'.F s'.A ∧ Kept P all k (s.A :: As) (h0 :: hs) rs ∧ K rs As s' := by
        intro v B hw hq
        obtain ⟨F, hF, hq⟩ := cpo_iff.1 hq
        obtain ⟨rs, As, s', e, hp, hk, hK⟩ := ih _ _ _ _ hq
        refine ⟨_, B :: As, s', e, .loud hw hF hp, ?_, hK⟩
        intro i r hr hl hh hwt
        cases i with
        | zero => simp at hr; subst hr; cases hl
        | succ i =>
          obtain ⟨k1, A1, k2, k3⟩ := hk i r (by simpa using hr) hl (by simpa using hh) hwt
          have k1 : k + 1 ≤ r.at_ := k1
          refine ⟨by omega, A1, ?_, k3⟩
          have e1 : r.at_ - k = (r.at_ - Nat.succ k) + 1 := by have : Nat.succ k = k + 1 := rfl; omega
          rw [e1, List.getElem?_cons_succ]; exact k2
      cases b with
      | false =>
        have h : (Bool.rec (quietW N o (.tuple #[]) k s (passW P cw N all os hs) K) (effW N o (.tuple #[]) s.A k s (passW P cw N all os hs) K) (loudB P o) : Prop) := h
        have hw := What.off (P := P) (call := call) (ds := s.ds) (A := s.A) (h := h0) hb
        cases hl : loudB P o with
        | false => rw [hl] at h hw; exact quiet _ hw (fun _ e => by cases e) h
        | true => rw [hl] at h hw; exact eff _ _ hw h
      | true =>
        have h : wantW P cw N o h0 k s (passW P cw N all os hs) K := h
        cases h0 with
        | some id =>
          have h : cpo (madeV P s.F o.op id) fun v => quietW N o v k s (passW P cw N all os hs) K := h
          rw [cpo_iff] at h
          obtain ⟨v, hv, h⟩ := h
          exact quiet v (.made id hb rfl hv) (fun e => by cases e) h
        | none =>
          have h : (Bool.rec (symQ P o.op s.F s.A.heap fun v => quietW N o v k s (passW P cw N all os hs) K) (cpb (bnot (softO P o.op)) (symE P o.op s.F s.A fun f => doFxD cw f fun v A => effW N o v A k s (passW P cw N all os hs) K)) (isE P o.op) : Prop) := h
          cases hi : isE P o.op with
          | false =>
            rw [hi] at h
            obtain ⟨v, h1, h2⟩ := symQ_dm.det _ (show symQ P o.op s.F s.A.heap _ from h)
            obtain ⟨v', e, hq⟩ := symQ_sound h2
            subst e
            exact quiet v' (.quiet hb rfl hi hq) (fun _ _ => h2) h1
          | true =>
            rw [hi] at h
            obtain ⟨hso, h⟩ := cpb_iff.1 (show cpb (bnot (softO P o.op)) _ from h)
            have hso : softO P o.op = false := by
              cases hx : softO P o.op with
              | false => rfl
              | true => rw [hx] at hso; cases hso
            obtain ⟨f, h1, hf⟩ := symE_sound (show symE P o.op s.F s.A _ from h)
            obtain ⟨v, B, hK, hL⟩ := doFxD_sound hcw hf h1
            exact eff v B (.loud hb rfl hi hso hL) hK
theorem winW_get {all : List Oper} {r : Rc} {h : Option Nat} {lo hi : Nat} {Ao : AW} : ∀ {As : List AW} {k : Nat}, winW P all r h lo hi Ao As k → ∀ (m : Nat) (A : AW), As[m]? = some A → lo ≤ k + m → k + m ≤ hi → isOwn h r (k + m) = false → againW P r h Ao A := by
  intro As
  induction As with
  | nil => intro k _ m A h; simp at h
  | cons B As ih =>
    intro k h5 m A hA h1 h2 h3
    have h5 : (Bool.rec (winW P all r h lo hi Ao As (Nat.succ k)) (againW P r h Ao B ∧ winW P all r h lo hi Ao As (Nat.succ k)) (Nat.ble lo k && (Nat.ble k hi && bnot (isOwn h r k))) : Prop) := h5
    cases m with
    | zero =>
      simp at hA; subst hA
      have : (Nat.ble lo k && (Nat.ble k hi && bnot (isOwn h r k))) = true := by
        rw [Bool.and_eq_true, Bool.and_eq_true, bnot_eq]
        exact ⟨bleIff.2 h1, bleIff.2 h2, by rw [Nat.add_zero] at h3; rw [h3]; rfl⟩
      rw [this] at h5
      exact h5.1
    | succ m =>
      have hrest : winW P all r h lo hi Ao As (Nat.succ k) := by
        generalize (Nat.ble lo k && (Nat.ble k hi && bnot (isOwn h r k))) = b at h5
        cases b with
        | false => exact h5
        | true => exact h5.2
      have e : Nat.succ k + m = k + (m + 1) := by have : Nat.succ k = k + 1 := rfl; omega
      exact ih hrest m A (by simpa using hA) (by omega) (by omega) (by rw [e]; exact h3)
theorem winsW_get {all : List Oper} {es : List (Nat × Nat)} {As : List AW} : ∀ {rs : List Rc} {hs : List (Option Nat)} {ms : List Nat} {i0 : Nat}, winsW P all es As rs hs ms i0 → ∀ (i : Nat) (r : Rc) (h : Option Nat) (m : Nat), rs[i]? = some r → hs[i]? = some h → ms[i]? = some m → r.loud = false → wantedA all r.o r.F = some true →
    ∃ Ao, As[r.at_]? = some Ao ∧ winW P all r h (loOf m es 0 0) (hiOf (i0 + i) es 0) Ao As 0 := by
  intro rs
  induction rs with
  | nil => intro hs ms i0 _ i r h m hr; simp at hr
  | cons r0 rs ih =>
    intro hs ms i0 hw i r h m hr hh hm hl hwt
    cases hs with
    | nil => exact False.elim hw
    | cons h0 hs => cases ms with
      | nil => exact False.elim hw
      | cons m0 ms =>
        have hw : (Bool.rec (cpo (wantedA all r0.o r0.F) fun b => Bool.rec True (cpo (lget As r0.at_) fun Ao => winW P all r0 h0 (loOf m0 es 0 0) (hiOf i0 es 0) Ao As 0) b) True r0.loud : Prop) ∧ winsW P all es As rs hs ms (Nat.succ i0) := hw
        cases i with
        | zero =>
          simp at hr hh hm; subst hr hh hm
          have h1 := hw.1
          rw [hl, hwt] at h1
          have h1 : cpo (lget As r0.at_) fun Ao => winW P all r0 h0 (loOf m0 es 0 0) (hiOf i0 es 0) Ao As 0 := h1
          rw [cpo_iff, lget_eq] at h1
          exact h1
        | succ i =>
          have := ih hw.2 i r h m (by simpa using hr) (by simpa using hh) (by simpa using hm) hl hwt
          have e : Nat.succ i0 + i = i0 + (i + 1) := by have : Nat.succ i0 = i0 + 1 := rfl; omega
          rw [e] at this; exact this
theorem drawW_sound (hcw : CwOK P cw) (hmix : P.follows .mixedOrders = true) {all : List Oper} {id : Nat} {s : St} {K : St → Prop} (h : drawW P cw N all s K) : ∃ s', K s' ∧ ∀ (σ : Sg) (a : Act) (w : World), SR P N σ s a w →
    ∀ (Q : Exit → Act → World → Prop), (∀ σ' a' w', SR P N σ' s' a' w' → Step σ s.A w σ' s'.A w' → Q .normal a' w') → (Code.region id ⟨all⟩ true).wp P Q a w := by
  unfold drawW at h
  rw [cpb_iff, cpo_iff] at h
  obtain ⟨hreg, ⟨hs, A1⟩, hh, h⟩ := h
  obtain ⟨rs, As, s', hds, hp, hk, hw, hK⟩ := passW_sound (call := fun _ _ _ => none) hcw _ _ _ _ _ h
  simp only at hds hp hk hw
  have hRO := regOk_ok hreg
  have hho := hoist_ok _ _ _ _ hh
  refine ⟨s', hK, fun σ a w hS Q hQ => ?_⟩
  refine ctx_wp (call := fun _ _ _ => none) hmix hS (C := ⟨hp, hRO, hho, ?_⟩) fun σ' a' w' hSR hst => hQ σ' a' w' ⟨hSR.fr, hSR.rel, by rw [hds]; exact hSR.ds⟩ hst
  intro i r h q hr hl hh' hq k Ac hAc h1 h2 hown
  refine .inr fun hb => ?_
  obtain ⟨Ao, hAo, hwin⟩ := winsW_get hw i r h q hr hh' hq hl hb
  rw [Nat.zero_add] at hwin
  have hag := winW_get hwin k Ac hAc (by omega) (by omega) (by simpa using hown)
  cases h with
  | some id =>
    have hag : cpb (freshAt P r.F r.o.op id Ac.heap) True := hag
    exact (cpb_iff.1 hag).1
  | none =>
    have hag : cpo (looksAt P r.F r.o.op) fun x => Option.rec True (fun b => Ac.heap.get b = Ao.heap.get b) x := hag
    obtain ⟨x, hx, hag⟩ := cpo_iff.1 hag
    obtain ⟨_, A2, hA2, hq2⟩ := hk i r hr hl hh' hb
    rw [Nat.sub_zero] at hA2
    rw [hA2] at hAo; cases hAo
    have hq3 : symQ P r.o.op r.F Ac.heap fun u => u = r.v := by
      rw [← symQ_same (H := Ao.heap) (H' := Ac.heap) hx (fun b e => by subst e; exact hag.symm)]
      exact hq2
    obtain ⟨v, e, hv⟩ := symQ_sound hq3
    rw [← e]; exact hv
end Go.Ev
end
