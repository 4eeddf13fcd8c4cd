/- The evaluator with variables: regions whose order is drawn. -/
import Derived.Test.YtfkacmmcgncooaaGreatDoorEv8
section
set_option linter.unusedSectionVars false
namespace Go.Ev
variable {P : Program} {N : Nat} {cw : CW} [Frozen P]
def Kept (P : Program) [Frozen P] (all : List Oper) (k : Nat) (As : List AW) (hs : List (Option Nat)) (rs : List Rc) : Prop := ∀ (i : Nat) (r : Rc), rs[i]? = some r → r.loud = false → hs[i]? = some none → wantedA all r.o r.F = some true → k ≤ r.at_ ∧ ∃ A1, As[r.at_ - k]? = some A1 ∧ symQ P r.o.op r.F A1.heap fun u => u = r.v
theorem passW_sound (hcw : CwOK P cw) {call : Caller} {all : List Oper} : ∀ (os : List Oper) (hs : List (Option Nat)) (k : Nat) (s : St) (K : PassK), passW P cw N all os hs k s K →
    ∃ rs As s', s'.ds = s.ds ∧ Passed P call N all s.ds os hs k s.F s.A rs As s'.F s'.A ∧ Kept P all k (s.A :: As) hs rs ∧ K rs As s' := by
  intro os
  induction os with
  | nil => intro hs k s K h; exact ⟨[], [], s, rfl, .nil, fun i r hr => by simp at hr, h⟩
  | cons o os ih =>
    intro hs k s K h
    cases hs with
    | nil => exact False.elim h
    | cons h0 hs =>
      have h : oneW P cw N all o h0 k s (passW P cw N all os hs) K := h
      unfold oneW at h
      rw [cpo_iff] at h
      obtain ⟨b, hb, h⟩ := h
      have quiet : ∀ v, What P call all s.ds o s.F s.A h0 v s.A false → (h0 = none → b = true → symQ P o.op s.F s.A.heap fun u => u = v) → quietW N o v k s (passW P cw N all os hs) K → ∃ rs As s', s'.ds = s.ds ∧ Passed P call N all s.ds (o :: os) (h0 :: hs) k s.F s.A rs As s'.F s'.A ∧ Kept P all k (s.A :: As) (h0 :: hs) rs ∧ K rs As s' := by
        intro v hw hkeep hq
        obtain ⟨F, hF, hq⟩ := cpo_iff.1 hq
        obtain ⟨rs, As, s', e, hp, hk, hK⟩ := ih _ _ _ _ hq
        refine ⟨_, As, s', e, .quiet hw hF hp, ?_, hK⟩
        intro i r hr hl hh hwt
        cases i with
        | zero =>
          simp at hr hh; subst hr
          simp only at hwt
          rw [hb] at hwt
          exact ⟨Nat.le_refl _, s.A, by simp, hkeep hh (Option.some.inj hwt)⟩
        | succ i =>
          have := hk i r (by simpa using hr) hl (by simpa using hh) hwt
          exact this
      have eff : ∀ v B, What P call all s.ds o s.F s.A h0 v B true → effW N o v B k s (passW P cw N all os hs) K → ∃ rs As s', s'.ds = s.ds ∧ Passed P call N all s.ds (o :: os) (h0 :: hs) k s.F s.A rs As s'.F s'.A ∧ Kept P all k (s.A :: As) (h0 :: hs) rs ∧ K rs As s' := by
        intro v B hw hq
        obtain ⟨F, hF, hq⟩ := cpo_iff.1 hq
        obtain ⟨rs, As, s', e, hp, hk, hK⟩ := ih _ _ _ _ hq
        refine ⟨_, B :: As, s', e, .loud hw hF hp, ?_, hK⟩
        intro i r hr hl hh hwt
        cases i with
        | zero => simp at hr; subst hr; cases hl
        | succ i =>
          obtain ⟨k1, A1, k2, k3⟩ := hk i r (by simpa using hr) hl (by simpa using hh) hwt
          have k1 : k + 1 ≤ r.at_ := k1
          refine ⟨by omega, A1, ?_, k3⟩
          have e1 : r.at_ - k = (r.at_ - Nat.succ k) + 1 := by have : Nat.succ k = k + 1 := rfl; omega
          rw [e1, List.getElem?_cons_succ]; exact k2
      cases b with
      | false =>
        have h : (Bool.rec (quietW N o (.tuple #[]) k s (passW P cw N all os hs) K) (effW N o (.tuple #[]) s.A k s (passW P cw N all os hs) K) (loudB P o) : Prop) := h
        have hw := What.off (P := P) (call := call) (ds := s.ds) (A := s.A) (h := h0) hb
        cases hl : loudB P o with
        | false => rw [hl] at h hw; exact quiet _ hw (fun _ e => by cases e) h
        | true => rw [hl] at h hw; exact eff _ _ hw h
      | true =>
        have h : wantW P cw N o h0 k s (passW P cw N all os hs) K := h
        cases h0 with
        | some id =>
          have h : cpo (madeV P s.F o.op id) fun v => quietW N o v k s (passW P cw N all os hs) K := h
          rw [cpo_iff] at h
          obtain ⟨v, hv, h⟩ := h
          exact quiet v (.made id hb rfl hv) (fun e => by cases e) h
        | none =>
          have h : (Bool.rec (symQ P o.op s.F s.A.heap fun v => quietW N o v k s (passW P cw N all os hs) K) (cpb (bnot (softO P o.op)) (symE P o.op s.F s.A fun f => doFxD cw f fun v A => effW N o v A k s (passW P cw N all os hs) K)) (isE P o.op) : Prop) := h
          cases hi : isE P o.op with
          | false =>
            rw [hi] at h
            obtain ⟨v, h1, h2⟩ := symQ_dm.det _ (show symQ P o.op s.F s.A.heap _ from h)
            obtain ⟨v', e, hq⟩ := symQ_sound h2
            subst e
            exact quiet v' (.quiet hb rfl hi hq) (fun _ _ => h2) h1
          | true =>
            rw [hi] at h
            obtain ⟨hso, h⟩ := cpb_iff.1 (show cpb (bnot (softO P o.op)) _ from h)
            have hso : softO P o.op = false := by
              cases hx : softO P o.op with
              | false => rfl
              | true => rw [hx] at hso; cases hso
            obtain ⟨f, h1, hf⟩ := symE_sound (show symE P o.op s.F s.A _ from h)
            obtain ⟨v, B, hK, hL⟩ := doFxD_sound hcw hf h1
            exact eff v B (.loud hb rfl hi hso hL) hK
theorem winW_get {all : List Oper} {r : Rc} {h : Option Nat} {lo hi : Nat} {Ao : AW} : ∀ {As : List AW} {k : Nat}, winW P all r h lo hi Ao As k → ∀ (m : Nat) (A : AW), As[m]? = some A → lo ≤ k + m → k + m ≤ hi → isOwn h r (k + m) = false → againW P r h Ao A := by
  intro As
  induction As with
  | nil => intro k _ m A h; simp at h
  | cons B As ih =>
    intro k h5 m A hA h1 h2 h3
    have h5 : (Bool.rec (winW P all r h lo hi Ao As (Nat.succ k)) (againW P r h Ao B ∧ winW P all r h lo hi Ao As (Nat.succ k)) (Nat.ble lo k && (Nat.ble k hi && bnot (isOwn h r k))) : Prop) := h5
    cases m with
    | zero =>
      simp at hA; subst hA
      have : (Nat.ble lo k && (Nat.ble k hi && bnot (isOwn h r k))) = true := by
        rw [Bool.and_eq_true, Bool.and_eq_true, bnot_eq]
        exact ⟨bleIff.2 h1, bleIff.2 h2, by rw [Nat.add_zero] at h3; rw [h3]; rfl⟩
      rw [this] at h5
      exact h5.1
    | succ m =>
      have hrest : winW P all r h lo hi Ao As (Nat.succ k) := by
        generalize (Nat.ble lo k && (Nat.ble k hi && bnot (isOwn h r k))) = b at h5
        cases b with
        | false => exact h5
        | true => exact h5.2
      have e : Nat.succ k + m = k + (m + 1) := by have : Nat.succ k = k + 1 := rfl; omega
      exact ih hrest m A (by simpa using hA) (by omega) (by omega) (by rw [e]; exact h3)
theorem winsW_get {all : List Oper} {es : List (Nat × Nat)} {As : List AW} : ∀ {rs : List Rc} {hs : List (Option Nat)} {ms : List Nat} {i0 : Nat}, winsW P all es As rs hs ms i0 → ∀ (i : Nat) (r : Rc) (h : Option Nat) (m : Nat), rs[i]? = some r → hs[i]? = some h → ms[i]? = some m → r.loud = false → wantedA all r.o r.F = some true →
    ∃ Ao, As[r.at_]? = some Ao ∧ winW P all r h (loOf m es 0 0) (hiOf (i0 + i) es 0) Ao As 0 := by
  intro rs
  induction rs with
  | nil => intro hs ms i0 _ i r h m hr; simp at hr
  | cons r0 rs ih =>
    intro hs ms i0 hw i r h m hr hh hm hl hwt
    cases hs with
    | nil => exact False.elim hw
    | cons h0 hs => cases ms with
      | nil => exact False.elim hw
      | cons m0 ms =>
        have hw : (Bool.rec (cpo (wantedA all r0.o r0.F) fun b => Bool.rec True (cpo (lget As r0.at_) fun Ao => winW P all r0 h0 (loOf m0 es 0 0) (hiOf i0 es 0) Ao As 0) b) True r0.loud : Prop) ∧ winsW P all es As rs hs ms (Nat.succ i0) := hw
        cases i with
        | zero =>
          simp at hr hh hm; subst hr hh hm
          have h1 := hw.1
          rw [hl, hwt] at h1
          have h1 : cpo (lget As r0.at_) fun Ao => winW P all r0 h0 (loOf m0 es 0 0) (hiOf i0 es 0) Ao As 0 := h1
          rw [cpo_iff, lget_eq] at h1
          exact h1
        | succ i =>
          have := ih hw.2 i r h m (by simpa using hr) (by simpa using hh) (by simpa using hm) hl hwt
          have e : Nat.succ i0 + i = i0 + (i + 1) := by have : Nat.succ i0 = i0 + 1 := rfl; omega
          rw [e] at this; exact this
theorem drawW_sound (hcw : CwOK P cw) (hmix : P.follows .mixedOrders = true) {all : List Oper} {id : Nat} {s : St} {K : St → Prop} (h : drawW P cw N all s K) : ∃ s', K s' ∧ ∀ (σ : Sg) (a : Act) (w : World), SR P N σ s a w →
    ∀ (Q : Exit → Act → World → Prop), (∀ σ' a' w', SR P N σ' s' a' w' → Step σ s.A w σ' s'.A w' → Q .normal a' w') → (Code.region id ⟨all⟩ true).wp P Q a w := by
  unfold drawW at h
  rw [cpb_iff, cpo_iff] at h
  obtain ⟨hreg, ⟨hs, A1⟩, hh, h⟩ := h
  obtain ⟨rs, As, s', hds, hp, hk, hw, hK⟩ := passW_sound (call := fun _ _ _ => none) hcw _ _ _ _ _ h
  simp only at hds hp hk hw
  have hRO := regOk_ok hreg
  have hho := hoist_ok _ _ _ _ hh
  refine ⟨s', hK, fun σ a w hS Q hQ => ?_⟩
  refine ctx_wp (call := fun _ _ _ => none) hmix hS (C := ⟨hp, hRO, hho, ?_⟩) fun σ' a' w' hSR hst => hQ σ' a' w' ⟨hSR.fr, hSR.rel, by rw [hds]; exact hSR.ds⟩ hst
  intro i r h q hr hl hh' hq k Ac hAc h1 h2 hown
  refine .inr fun hb => ?_
  obtain ⟨Ao, hAo, hwin⟩ := winsW_get hw i r h q hr hh' hq hl hb
  rw [Nat.zero_add] at hwin
  have hag := winW_get hwin k Ac hAc (by omega) (by omega) (by simpa using hown)
  cases h with
  | some id =>
    have hag : cpb (freshAt P r.F r.o.op id Ac.heap) True := hag
    exact (cpb_iff.1 hag).1
  | none =>
    have hag : cpo (looksAt P r.F r.o.op) fun x => Option.rec True (fun b => Ac.heap.get b = Ao.heap.get b) x := hag
    obtain ⟨x, hx, hag⟩ := cpo_iff.1 hag
    obtain ⟨_, A2, hA2, hq2⟩ := hk i r hr hl hh' hb
    rw [Nat.sub_zero] at hA2
    rw [hA2] at hAo; cases hAo
    have hq3 : symQ P r.o.op r.F Ac.heap fun u => u = r.v := by
      rw [← symQ_same (H := Ao.heap) (H' := Ac.heap) hx (fun b e => by subst e; exact hag.symm)]
      exact hq2
    obtain ⟨v, e, hv⟩ := symQ_sound hq3
    rw [← e]; exact hv
end Go.Ev
end

/- The evaluator with variables: code, bodies. -/
section
set_option linter.unusedSectionVars false
namespace Go.Ev
variable {P : Program} {N n0 : Nat} {cw : CW} [Frozen P]
structure JA where
  β : Type
  at_ : β → MS
  J : β → Prop
  ren : St → List (Nat × Nat)
structure LC where
  β : Type
  at_ : β → MS
  J : β → Prop
  μ : β → Nat
  ren : St → List (Nat × Nat)
structure LA where
  α : Type
  at_ : α → MS
  J : α → Prop
  μ : α → Nat
  ren : St → List (Nat × Nat)
  xt : Option (Nat × JA) := none
  sj : List (Nat × JA) := []
  mc : Option ((St → List LC) × (St → Nat)) := none
noncomputable section
def nLoops (c : Code) : Nat := Code.rec (motive := fun _ => Nat) 0 (fun _ _ _ => 0) (fun _ _ x y => Nat.add x y) (fun _ _ _ x y => Nat.add x y) (fun _ _ x => x) (fun _ x => Nat.succ x) (fun _ _ _ _ x y => Nat.add x y) (fun _ => 0) (fun _ x => x) (fun _ => 0) (fun _ => 0) 0 (fun _ => 0) c
abbrev Anns := List (Option LA)
abbrev CK := Ox → St → Prop
abbrev RunW := Anns → St → CK → Prop
def tlN (n : Nat) (l : Anns) : Anns := Nat.rec l (fun _ ih => List.tail ih) n
def iterW (n : Nat) (f : St → CK → Prop) : St → CK → Prop := Nat.rec (motive := fun _ => St → CK → Prop) (fun _ _ => False) (fun _ ih s K => f s fun ox s' => Ox.rec (ih s' K) (fun i => K (.exit i) s') (K .ret s') ox) n
def loopW (P : Program) [Frozen P] (n0 : Nat) (la : LA) (f : St → CK → Prop) (s : St) (K : CK) : Prop := ∃ a0 : la.α, la.J a0 ∧ Weak P n0 (la.ren s) s (la.at_ a0) ∧ ∀ a, la.J a → f (la.at_ a).st fun ox s' =>
  Ox.rec (∃ a' : la.α, la.J a' ∧ la.μ a' < la.μ a ∧ Weak P n0 (la.ren s') s' (la.at_ a')) (fun i => K (.exit i) s') (K .ret s') ox
def joinK (P : Program) [Frozen P] (n0 : Nat) (ja : JA) (s : St) : Prop := ∃ b : ja.β, ja.J b ∧ Weak P n0 (ja.ren s) s (ja.at_ b)
def loopX (P : Program) [Frozen P] (n0 : Nat) (la : LA) (x : Nat × JA) (f : St → CK → Prop) (s : St) (K : CK) : Prop := (∃ a0 : la.α, la.J a0 ∧ Weak P n0 (la.ren s) s (la.at_ a0) ∧ ∀ a, la.J a → f (la.at_ a).st fun ox s' =>
  Ox.rec (∃ a' : la.α, la.J a' ∧ la.μ a' < la.μ a ∧ Weak P n0 (la.ren s') s' (la.at_ a')) (fun i => Bool.rec (K (.exit i) s') (joinK P n0 x.2 s') (Nat.beq i x.1)) (K .ret s') ox) ∧ ∀ b, x.2.J b → K (.exit x.1) (x.2.at_ b).st
def lcAt (l : List LC) (f : LC → Prop) : Nat → Prop := List.rec (motive := fun _ => Nat → Prop) (fun _ => False) (fun c _ ih k => Nat.rec (f c) (fun k _ => ih k) k) l
def lcAll (l : List LC) (f : LC → Prop) : Prop := List.rec True (fun c _ ih => f c ∧ ih) l
def loopM (P : Program) [Frozen P] (n0 : Nat) (cs : List LC) (pk : St → Nat) (f : St → CK → Prop) (s : St) (K : CK) : Prop := lcAt cs (fun c => ∃ b, c.J b ∧ Weak P n0 (c.ren s) s (c.at_ b)) (pk s) ∧ lcAll cs fun c => ∀ a, c.J a → f (c.at_ a).st fun ox s' =>
  Ox.rec (lcAt cs (fun c' => ∃ b, c'.J b ∧ c'.μ b < c.μ a ∧ Weak P n0 (c'.ren s') s' (c'.at_ b)) (pk s')) (fun i => K (.exit i) s') (K .ret s') ox
def lookJ (l : List (Nat × JA)) (r : Nat) : Option JA := List.rec none (fun p _ ih => Bool.rec ih (some p.2) (Nat.beq p.1 r)) l
def findJ (an : Anns) (r : Nat) : Option JA := List.rec none (fun x _ ih => Option.rec ih (fun la => Option.rec ih (fun ja => some ja) (lookJ la.sj r)) x) an
def orR (x y : Option Nat) : Option Nat := Option.rec y (fun n => some n) x
def firstR (c : Code) : Option Nat := Code.rec (motive := fun _ => Option Nat) none (fun id _ _ => some id) (fun _ _ x y => orR x y) (fun _ _ _ x y => orR x y) (fun _ _ x => x) (fun _ x => x) (fun _ _ _ _ x y => orR x y) (fun _ => none) (fun _ x => x) (fun _ => none) (fun _ => none) none (fun _ => none) c
def joinAt (an : Anns) (y : Code) : Option JA := Option.rec none (fun r => findJ an r) (firstR y)
def condW (P : Program) [Frozen P] (c : Operand) (s : St) (A B : Prop) : Prop := cpo (opnd P s.F c) fun v => Bool.rec (cpo (boolOf v) fun b => Bool.rec B A b) (match uval v with
  | .bool b => (b = true → A) ∧ (b = false → B)
  | _ => False) (isSym v)
def annW (P : Program) [Frozen P] (n0 : Nat) (f : RunW) (an : Anns) (s : St) (K : CK) : Prop := match an with
  | [] => iterW 100000 (f []) s K
  | none :: an => iterW 100000 (f an) s K
  | some la :: an => Option.rec (Option.rec (loopW P n0 la (f an) s K) (fun x => loopX P n0 la x (f an) s K) la.xt) (fun m => loopM P n0 (m.1 s) m.2 (f an) s K) la.mc
def codeW (P : Program) [Frozen P] (cw : CW) (N n0 : Nat) (c : Code) : RunW := Code.rec (motive := fun _ => RunW)
  (fun _ s K => K .normal s) (fun _ ops d _ s K => Bool.rec (seqW P cw N ops.toList ops.toList s (K .normal)) (drawW P cw N ops.toList s (K .normal)) d)
  (fun x y ihx ihy an s K => Option.rec (ihx an s fun ox s' => Ox.rec (ihy (tlN (nLoops x) an) s' K) (fun i => K (.exit i) s') (K .ret s') ox)
    (fun ja => (ihx an s fun ox s' => Ox.rec (joinK P n0 ja s') (fun i => K (.exit i) s') (K .ret s') ox) ∧ ∀ b, ja.J b → ihy (tlN (nLoops x) an) (ja.at_ b).st K) (joinAt an y))
  (fun c x _ ihx ihy an s K => condW P c s (ihx an s K) (ihy (tlN (nLoops x) an) s K))
  (fun id _ ih an s K => ih an s fun ox s' => Ox.rec (K .normal s') (fun i => Bool.rec (K (.exit i) s') (K .normal s') (Nat.beq i id)) (K .ret s') ox)
  (fun _ ih an s K => annW P n0 ih an s K)
  (fun _ _ _ _ _ _ _ _ _ => False) (fun id _ s K => K (.exit id) s) (fun _ ih => ih) (fun _ _ s K => K .normal s) (fun _ _ _ _ => False) (fun _ s K => K .ret s) (fun _ _ _ _ => False) c
end
def PostW (P : Program) [Frozen P] (N : Nat) (σ0 : Sg) (A0 : AW) (w0 : World) (p : Ox × St) (e : Exit) (a : Act) (w : World) : Prop := e = exOf p.1 ∧ ∃ σ, SR P N σ p.2 a w ∧ Step σ0 A0 w0 σ p.2.A w
def CodeSem (P : Program) [Frozen P] (N n0 : Nat) (c : Code) (s : St) (p : Ox × St) : Prop := ∀ (σ0 : Sg) (A0 : AW) (w0 : World) (σ : Sg) (a : Act) (w : World), A0.next = n0 → SR P N σ s a w → Step σ0 A0 w0 σ s.A w → c.wp P (PostW P N σ0 A0 w0 p) a w
def LoopSem (P : Program) [Frozen P] (N n0 : Nat) (c : Code) (s : St) (p : Ox × St) : Prop := ∀ (σ0 : Sg) (A0 : AW) (w0 : World) (σ : Sg) (a : Act) (w : World), A0.next = n0 → SR P N σ s a w → Step σ0 A0 w0 σ s.A w →
  ∀ (b : Frame) (k : List Item) (cs : List Frame), ∃ e a' w', PostW P N σ0 A0 w0 p e a' w' ∧ Arrives P (lone (b.at a (.code c :: .inLoop c :: k)) cs w) b k cs e a' w'
theorem round_normal {c : Code} {s s1 : St} {p : Ox × St} (h1 : CodeSem P N n0 c s (.normal, s1)) (h2 : LoopSem P N n0 c s1 p) : LoopSem P N n0 c s p := by
  intro σ0 A0 w0 σ a w hn hS hst b k cs
  obtain ⟨e, a₁, w₁, ⟨he, σ1, hS1, hst1⟩, harr⟩ := h1 σ0 A0 w0 σ a w hn hS hst b (.inLoop c :: k) cs
  obtain rfl : e = .normal := he
  obtain ⟨e2, a2, w2, hp, harr2⟩ := h2 σ0 A0 w0 σ1 a₁ w₁ hn hS1 hst1 b k cs
  exact ⟨e2, a2, w2, hp, .of_steps (Steps.trans harr (.one step_inLoop)) harr2⟩
theorem round_out {c : Code} {s s1 : St} {o : Ox} (h1 : CodeSem P N n0 c s (o, s1)) (ho : o ≠ .normal) : LoopSem P N n0 c s (o, s1) := by
  intro σ0 A0 w0 σ a w hn hS hst b k cs
  obtain ⟨e, a₁, w₁, ⟨he, σ1, hS1, hst1⟩, harr⟩ := h1 σ0 A0 w0 σ a w hn hS hst b (.inLoop c :: k) cs
  cases o with
  | normal => exact absurd rfl ho
  | exit i =>
    obtain rfl : e = .exit i := he
    exact ⟨_, a₁, w₁, ⟨rfl, σ1, hS1, hst1⟩, .pass (x := .inLoop c) rfl (fun _ _ => .inl (by simp [exOf])) harr⟩
  | ret =>
    obtain rfl : e = .ret := he
    exact ⟨_, a₁, w₁, ⟨rfl, σ1, hS1, hst1⟩, .pass (x := .inLoop c) rfl (fun _ _ => .inl (by simp [exOf])) harr⟩
theorem loop_of {c : Code} {s : St} {p : Ox × St} (h : LoopSem P N n0 c s p) : CodeSem P N n0 (.loop c) s p := by
  intro σ0 A0 w0 σ a w hn hS hst b k cs
  obtain ⟨e, a', w', hq, harr⟩ := h σ0 A0 w0 σ a w hn hS hst b k cs
  exact ⟨e, a', w', hq, .of_steps (.one step_loop) harr⟩
theorem weak_loop {c : Code} {l : List (Nat × Nat)} {s : St} {m : MS} {p : Ox × St} (hw : Weak P n0 l s m) (h : LoopSem P N n0 c m.st p) : LoopSem P N n0 c s p := by
  intro σ0 A0 w0 σ a w hn hS hst b k cs
  obtain ⟨σr, hS', hst'⟩ := weak_ok hw hn hS hst
  exact h σ0 A0 w0 σr a w hn hS' hst' b k cs
def RunOK (P : Program) [Frozen P] (N n0 : Nat) (c : Code) (f : St → CK → Prop) : Prop := ∀ s K, f s K → ∃ p : Ox × St, CodeSem P N n0 c s p ∧ K p.1 p.2
theorem iterW_sound {c : Code} {f : St → CK → Prop} (hf : RunOK P N n0 c f) : ∀ (n : Nat) (s : St) (K : CK), iterW n f s K → ∃ p : Ox × St, LoopSem P N n0 c s p ∧ K p.1 p.2 := by
  intro n
  induction n with
  | zero => intro s K h; exact h.elim
  | succ n ih =>
    intro s K h
    have h : f s fun ox s' => Ox.rec (iterW n f s' K) (fun i => K (.exit i) s') (K .ret s') ox := h
    obtain ⟨⟨o, s1⟩, h1, h2⟩ := hf _ _ h
    cases o with
    | normal =>
      obtain ⟨p, h3, h4⟩ := ih s1 K h2
      exact ⟨p, round_normal h1 h3, h4⟩
    | exit i => exact ⟨(.exit i, s1), round_out h1 (by simp), h2⟩
    | ret => exact ⟨(.ret, s1), round_out h1 (by simp), h2⟩
theorem loopW_sound {c : Code} {la : LA} {f : St → CK → Prop} (hf : RunOK P N n0 c f) {s : St} {K : CK} (h : loopW P n0 la f s K) : ∃ p : Ox × St, LoopSem P N n0 c s p ∧ K p.1 p.2 := by
  obtain ⟨a0, hJ, hw, hall⟩ := h
  have key : ∀ (n : Nat) (a : la.α), la.μ a ≤ n → la.J a → ∃ p : Ox × St, LoopSem P N n0 c (la.at_ a).st p ∧ K p.1 p.2 := by
    intro n
    induction n with
    | zero =>
      intro a hn hJ
      obtain ⟨⟨o, s1⟩, h1, h2⟩ := hf _ _ (hall a hJ)
      cases o with
      | normal => obtain ⟨a', _, hlt, _⟩ := h2; omega
      | exit i => exact ⟨(.exit i, s1), round_out h1 (by simp), h2⟩
      | ret => exact ⟨(.ret, s1), round_out h1 (by simp), h2⟩
    | succ n ih =>
      intro a hn hJ
      obtain ⟨⟨o, s1⟩, h1, h2⟩ := hf _ _ (hall a hJ)
      cases o with
      | normal =>
        obtain ⟨a', hJ', hlt, hw'⟩ := h2
        obtain ⟨p, h3, h4⟩ := ih a' (by omega) hJ'
        exact ⟨p, round_normal h1 (weak_loop hw' h3), h4⟩
      | exit i => exact ⟨(.exit i, s1), round_out h1 (by simp), h2⟩
      | ret => exact ⟨(.ret, s1), round_out h1 (by simp), h2⟩
  obtain ⟨p, h1, h2⟩ := key _ a0 (Nat.le_refl _) hJ
  exact ⟨p, weak_loop hw h1, h2⟩
theorem lcAt_some {f : LC → Prop} : ∀ {l : List LC} {i : Nat}, lcAt l f i → ∃ c ∈ l, f c := by
  intro l
  induction l with
  | nil => intro i h; exact h.elim
  | cons y l ih =>
    intro i h
    cases i with
    | zero => exact ⟨y, List.mem_cons_self, h⟩
    | succ i =>
      obtain ⟨c, h1, h2⟩ := ih (show lcAt l f i from h)
      exact ⟨c, List.mem_cons_of_mem _ h1, h2⟩
theorem lcAll_mem {f : LC → Prop} : ∀ {l : List LC}, lcAll l f → ∀ c ∈ l, f c := by
  intro l
  induction l with
  | nil => intro _ c hc; cases hc
  | cons y l ih =>
    intro h c hc
    have h : f y ∧ lcAll l f := h
    rcases List.mem_cons.1 hc with rfl | hc
    · exact h.1
    · exact ih h.2 c hc
theorem loopM_sound {c : Code} {cs : List LC} {pk : St → Nat} {f : St → CK → Prop} (hf : RunOK P N n0 c f) {s : St} {K : CK} (h : loopM P n0 cs pk f s K) : ∃ p : Ox × St, LoopSem P N n0 c s p ∧ K p.1 p.2 := by
  obtain ⟨h0, hall⟩ := h
  have key : ∀ (n : Nat) (la : LC), la ∈ cs → ∀ a : la.β, la.μ a ≤ n → la.J a → ∃ p : Ox × St, LoopSem P N n0 c (la.at_ a).st p ∧ K p.1 p.2 := by
    intro n
    induction n with
    | zero =>
      intro la hla a hn hJ
      obtain ⟨⟨o, s1⟩, h1, h2⟩ := hf _ _ (lcAll_mem hall la hla a hJ)
      cases o with
      | normal => obtain ⟨_, _, a', _, hlt, _⟩ := lcAt_some h2; omega
      | exit i => exact ⟨(.exit i, s1), round_out h1 (by simp), h2⟩
      | ret => exact ⟨(.ret, s1), round_out h1 (by simp), h2⟩
    | succ n ih =>
      intro la hla a hn hJ
      obtain ⟨⟨o, s1⟩, h1, h2⟩ := hf _ _ (lcAll_mem hall la hla a hJ)
      cases o with
      | normal =>
        obtain ⟨la', hla', a', hJ', hlt, hw'⟩ := lcAt_some h2
        obtain ⟨p, h3, h4⟩ := ih la' hla' a' (by omega) hJ'
        exact ⟨p, round_normal h1 (weak_loop hw' h3), h4⟩
      | exit i => exact ⟨(.exit i, s1), round_out h1 (by simp), h2⟩
      | ret => exact ⟨(.ret, s1), round_out h1 (by simp), h2⟩
  obtain ⟨la, hla, a0, hJ, hw⟩ := lcAt_some h0
  obtain ⟨p, h1, h2⟩ := key _ la hla a0 (Nat.le_refl _) hJ
  exact ⟨p, weak_loop hw h1, h2⟩
theorem weak_out {c : Code} {s s1 : St} {o : Ox} {l : List (Nat × Nat)} {m : MS} (h1 : CodeSem P N n0 c s (o, s1)) (hw : Weak P n0 l s1 m) : CodeSem P N n0 c s (o, m.st) := by
  intro σ0 A0 w0 σ a w hn hS hst
  refine wp_mono (h1 σ0 A0 w0 σ a w hn hS hst) ?_
  rintro e a' w' ⟨he, σ1, hS1, hst1⟩
  obtain ⟨σr, hS', hst'⟩ := weak_ok hw hn hS1 hst1
  exact ⟨he, σr, hS', hst'⟩
theorem loopX_sound {c : Code} {la : LA} {x : Nat × JA} {f : St → CK → Prop} (hf : RunOK P N n0 c f) {s : St} {K : CK} (h : loopX P n0 la x f s K) : ∃ p : Ox × St, LoopSem P N n0 c s p ∧ K p.1 p.2 := by
  obtain ⟨⟨a0, hJ, hw, hall⟩, hjoin⟩ := h
  have out : ∀ {s s1 : St} {i : Nat}, CodeSem P N n0 c s (.exit i, s1) → (Bool.rec (K (.exit i) s1) (joinK P n0 x.2 s1) (Nat.beq i x.1) : Prop) → ∃ p : Ox × St, LoopSem P N n0 c s p ∧ K p.1 p.2 := fun {s s1 i} h1 h2 => by
    cases hb : Nat.beq i x.1 with
    | false => rw [hb] at h2; exact ⟨(.exit i, s1), round_out h1 (by simp), h2⟩
    | true =>
      rw [hb] at h2
      obtain ⟨b, hJb, hwb⟩ := h2
      rw [beqIff.1 hb] at h1
      exact ⟨(.exit x.1, (x.2.at_ b).st), round_out (weak_out h1 hwb) (by simp), hjoin b hJb⟩
  have key : ∀ (n : Nat) (a : la.α), la.μ a ≤ n → la.J a → ∃ p : Ox × St, LoopSem P N n0 c (la.at_ a).st p ∧ K p.1 p.2 := by
    intro n
    induction n with
    | zero =>
      intro a hn hJ
      obtain ⟨⟨o, s1⟩, h1, h2⟩ := hf _ _ (hall a hJ)
      cases o with
      | normal => obtain ⟨a', _, hlt, _⟩ := h2; omega
      | exit i => exact out h1 h2
      | ret => exact ⟨(.ret, s1), round_out h1 (by simp), h2⟩
    | succ n ih =>
      intro a hn hJ
      obtain ⟨⟨o, s1⟩, h1, h2⟩ := hf _ _ (hall a hJ)
      cases o with
      | normal =>
        obtain ⟨a', hJ', hlt, hw'⟩ := h2
        obtain ⟨p, h3, h4⟩ := ih a' (by omega) hJ'
        exact ⟨p, round_normal h1 (weak_loop hw' h3), h4⟩
      | exit i => exact out h1 h2
      | ret => exact ⟨(.ret, s1), round_out h1 (by simp), h2⟩
  obtain ⟨p, h1, h2⟩ := key _ a0 (Nat.le_refl _) hJ
  exact ⟨p, weak_loop hw h1, h2⟩
theorem condW_some {c : Operand} {s : St} {A B : Prop} (h : condW P c s A B) : ∃ b : Bool, (cond b A B) ∧ ∀ (σ : Sg) (a : Act) (w : World), SR P N σ s a w → a.eval c = .bool b := by
  unfold condW at h
  rw [cpo_iff] at h
  obtain ⟨v, hv, h⟩ := h
  cases hs : isSym v with
  | false =>
    rw [hs] at h
    have h : cpo (boolOf v) fun b => (Bool.rec B A b : Prop) := h
    rw [cpo_iff] at h
    obtain ⟨b, hb, h⟩ := h
    rw [boolOf_some] at hb
    subst hb
    refine ⟨b, by cases b <;> exact h, fun σ a w hS => ?_⟩
    exact (hS.fr.ok hS.rel.glob [c] c (by simp) _ hv).of_flat rfl
  | true =>
    rw [hs] at h
    have h : (match uval v with
      | .bool b => (b = true → A) ∧ (b = false → B)
      | _ => False) := h
    split at h
    · rename_i b hu
      refine ⟨b, by cases b; exact h.2 rfl; exact h.1 rfl, fun σ a w hS => ?_⟩
      exact uval_bool (hS.fr.ok hS.rel.glob [c] c (by simp) _ hv) hu
    · exact h.elim
theorem codeW_sound (hcw : CwOK P cw) (hmix : P.follows .mixedOrders = true) (c : Code) : ∀ an, RunOK P N n0 c (codeW P cw N n0 c an) := by
  induction c with
  | skip => intro an s K h; exact ⟨(.normal, s), fun σ0 A0 w0 σ a w hn hS hst => wp_skip ⟨rfl, σ, hS, hst⟩, h⟩
  | label l => intro an s K h; exact ⟨(.normal, s), fun σ0 A0 w0 σ a w hn hS hst => wp_label ⟨rfl, σ, hS, hst⟩, h⟩
  | exit id => intro an s K h; exact ⟨(.exit id, s), fun σ0 A0 w0 σ a w hn hS hst => wp_exit ⟨rfl, σ, hS, hst⟩, h⟩
  | ret => intro an s K h; exact ⟨(.ret, s), fun σ0 A0 w0 σ a w hn hS hst => wp_ret ⟨rfl, σ, hS, hst⟩, h⟩
  | goto l => intro an s K h; exact False.elim h
  | refuse y => intro an s K h; exact False.elim h
  | rangeFunc f ps x y _ _ => intro an s K h; exact False.elim h
  | region id ops d =>
    intro an s K h
    obtain ⟨ops⟩ := ops
    cases d with
    | false =>
      have h : seqW P cw N ops ops s (K .normal) := h
      obtain ⟨s', hK, hrun⟩ := seqW_sound hcw ops 0 s _ rfl h
      refine ⟨(.normal, s'), fun σ0 A0 w0 σ a w hn hS hst => wp_region ?_, hK⟩
      have := hrun σ a w hS (PostW P N σ0 A0 w0 (.normal, s')) fun σ' a' w' h1 h2 => ⟨rfl, σ', h1, hst.trans h2⟩
      rwa [← List.range_eq_range'] at this
    | true =>
      have h : drawW P cw N ops s (K .normal) := h
      obtain ⟨s', hK, hrun⟩ := drawW_sound (id := id) hcw hmix h
      exact ⟨(.normal, s'), fun σ0 A0 w0 σ a w hn hS hst => hrun σ a w hS _ fun σ' a' w' h1 h2 => ⟨rfl, σ', h1, hst.trans h2⟩, hK⟩
  | seq x y ihx ihy =>
    intro an s K h
    have h : (Option.rec (codeW P cw N n0 x an s fun ox s' => Ox.rec (codeW P cw N n0 y (tlN (nLoops x) an) s' K) (fun i => K (.exit i) s') (K .ret s') ox)
      (fun ja => (codeW P cw N n0 x an s fun ox s' => Ox.rec (joinK P n0 ja s') (fun i => K (.exit i) s') (K .ret s') ox) ∧ ∀ b, ja.J b → codeW P cw N n0 y (tlN (nLoops x) an) (ja.at_ b).st K) (joinAt an y) : Prop) := h
    cases hj : joinAt an y with
    | some ja =>
      rw [hj] at h
      obtain ⟨hx, hy⟩ := h
      obtain ⟨⟨o, s1⟩, h1, h2⟩ := ihx an s _ hx
      cases o with
      | normal =>
        obtain ⟨b, hJb, hwb⟩ := h2
        obtain ⟨p, h3, h4⟩ := ihy _ _ K (hy b hJb)
        refine ⟨p, fun σ0 A0 w0 σ a w hn hS hst => wp_seq (wp_mono (weak_out h1 hwb σ0 A0 w0 σ a w hn hS hst) ?_), h4⟩
        rintro e a' w' ⟨rfl, σ1, hS1, hst1⟩
        exact h3 σ0 A0 w0 σ1 a' w' hn hS1 hst1
      | exit i =>
        refine ⟨(.exit i, s1), fun σ0 A0 w0 σ a w hn hS hst => wp_seq (wp_mono (h1 σ0 A0 w0 σ a w hn hS hst) ?_), h2⟩
        rintro e a' w' ⟨rfl, σ1, hS1, hst1⟩
        exact ⟨rfl, σ1, hS1, hst1⟩
      | ret =>
        refine ⟨(.ret, s1), fun σ0 A0 w0 σ a w hn hS hst => wp_seq (wp_mono (h1 σ0 A0 w0 σ a w hn hS hst) ?_), h2⟩
        rintro e a' w' ⟨rfl, σ1, hS1, hst1⟩
        exact ⟨rfl, σ1, hS1, hst1⟩
    | none =>
    rw [hj] at h
    obtain ⟨⟨o, s1⟩, h1, h2⟩ := ihx an s _ h
    cases o with
    | normal =>
      obtain ⟨p, h3, h4⟩ := ihy _ s1 K h2
      refine ⟨p, fun σ0 A0 w0 σ a w hn hS hst => wp_seq (wp_mono (h1 σ0 A0 w0 σ a w hn hS hst) ?_), h4⟩
      rintro e a' w' ⟨rfl, σ1, hS1, hst1⟩
      exact h3 σ0 A0 w0 σ1 a' w' hn hS1 hst1
    | exit i =>
      refine ⟨(.exit i, s1), fun σ0 A0 w0 σ a w hn hS hst => wp_seq (wp_mono (h1 σ0 A0 w0 σ a w hn hS hst) ?_), h2⟩
      rintro e a' w' ⟨rfl, σ1, hS1, hst1⟩
      exact ⟨rfl, σ1, hS1, hst1⟩
    | ret =>
      refine ⟨(.ret, s1), fun σ0 A0 w0 σ a w hn hS hst => wp_seq (wp_mono (h1 σ0 A0 w0 σ a w hn hS hst) ?_), h2⟩
      rintro e a' w' ⟨rfl, σ1, hS1, hst1⟩
      exact ⟨rfl, σ1, hS1, hst1⟩
  | cond c x y ihx ihy =>
    intro an s K h
    obtain ⟨b, hb, hev⟩ := condW_some (N := N) (show condW P c s _ _ from h)
    cases b with
    | true =>
      obtain ⟨p, h1, h2⟩ := ihx an s K hb
      exact ⟨p, fun σ0 A0 w0 σ a w hn hS hst => wp_cond (hev σ a w hS) (h1 σ0 A0 w0 σ a w hn hS hst), h2⟩
    | false =>
      obtain ⟨p, h1, h2⟩ := ihy _ s K hb
      exact ⟨p, fun σ0 A0 w0 σ a w hn hS hst => wp_cond (hev σ a w hS) (h1 σ0 A0 w0 σ a w hn hS hst), h2⟩
  | block id x ih =>
    intro an s K h
    obtain ⟨⟨o, s1⟩, h1, h2⟩ := ih an s _ h
    cases o with
    | normal =>
      refine ⟨(.normal, s1), fun σ0 A0 w0 σ a w hn hS hst => wp_block (wp_mono (h1 σ0 A0 w0 σ a w hn hS hst) ?_), h2⟩
      rintro e a' w' ⟨rfl, σ1, hS1, hst1⟩
      exact ⟨rfl, σ1, hS1, hst1⟩
    | exit i =>
      have h2 : (Bool.rec (K (.exit i) s1) (K .normal s1) (Nat.beq i id) : Prop) := h2
      cases hb : Nat.beq i id with
      | true =>
        rw [hb] at h2
        refine ⟨(.normal, s1), fun σ0 A0 w0 σ a w hn hS hst => wp_block (wp_mono (h1 σ0 A0 w0 σ a w hn hS hst) ?_), h2⟩
        rintro e a' w' ⟨rfl, σ1, hS1, hst1⟩
        show (if i = id then _ else _)
        rw [if_pos (beqIff.1 hb)]; exact ⟨rfl, σ1, hS1, hst1⟩
      | false =>
        rw [hb] at h2
        refine ⟨(.exit i, s1), fun σ0 A0 w0 σ a w hn hS hst => wp_block (wp_mono (h1 σ0 A0 w0 σ a w hn hS hst) ?_), h2⟩
        rintro e a' w' ⟨rfl, σ1, hS1, hst1⟩
        show (if i = id then _ else _)
        rw [if_neg (fun e => by rw [beqIff.2 e] at hb; cases hb)]; exact ⟨rfl, σ1, hS1, hst1⟩
    | ret =>
      refine ⟨(.ret, s1), fun σ0 A0 w0 σ a w hn hS hst => wp_block (wp_mono (h1 σ0 A0 w0 σ a w hn hS hst) ?_), h2⟩
      rintro e a' w' ⟨rfl, σ1, hS1, hst1⟩
      exact ⟨rfl, σ1, hS1, hst1⟩
  | loop x ih =>
    intro an s K h
    have h : annW P n0 (codeW P cw N n0 x) an s K := h
    unfold annW at h
    split at h
    · obtain ⟨p, h1, h2⟩ := iterW_sound (ih []) _ s K h
      exact ⟨p, loop_of h1, h2⟩
    · obtain ⟨p, h1, h2⟩ := iterW_sound (ih _) _ s K h
      exact ⟨p, loop_of h1, h2⟩
    · rename_i la an' _
      cases hm : la.mc with
      | some m =>
        rw [hm] at h
        obtain ⟨p, h1, h2⟩ := loopM_sound (ih _) h
        exact ⟨p, loop_of h1, h2⟩
      | none =>
      rw [hm] at h
      cases hx : la.xt with
      | none =>
        rw [hx] at h
        obtain ⟨p, h1, h2⟩ := loopW_sound (ih _) h
        exact ⟨p, loop_of h1, h2⟩
      | some x =>
        rw [hx] at h
        obtain ⟨p, h1, h2⟩ := loopX_sound (ih _) h
        exact ⟨p, loop_of h1, h2⟩
  | scope x ih =>
    intro an s K h
    obtain ⟨⟨o, s1⟩, h1, h2⟩ := ih an s K h
    refine ⟨(o, s1), fun σ0 A0 w0 σ a w hn hS hst => wp_scope_straight (wp_mono (h1 σ0 A0 w0 σ a w hn hS hst) ?_), h2⟩
    rintro e a' w' ⟨rfl, σ', k1, k2⟩
    cases o <;> exact ⟨rfl, σ', k1, k2⟩
end Go.Ev
end

/- The evaluator with variables: bodies; what a function comes to. -/
set_option linter.unusedSectionVars false
namespace Go.Ev
variable {P : Program} {cw : CW} {E : Env} [Frozen P]
noncomputable section
def noCall : Caller := fun _ _ _ => none
def finW (P : Program) [Frozen P] (E : Env) (fn : Func) (s : St) (K : Value → AW → Prop) : Prop := cpo (leaveA P noCall E.dh s.ds s.A) fun A => cpo (resA P s.F A.heap fn.results.toList) fun vs => K (resultA vs) A
def bodyW (P : Program) [Frozen P] (E : Env) (cw : CW) (fn : Func) (c : Code) (an : Anns) (args : List Value) (A : AW) (K : Value → AW → Prop) : Prop := cpb (Nat.ble args.length fn.ntmps)
  (codeW P cw fn.ntmps A.next c an ⟨frameOf args 0 .e, A, []⟩ fun ox s => Ox.rec (finW P E fn s K) (fun _ => False) (finW P E fn s K) ox)
def fnW (P : Program) [Frozen P] (E : Env) (cw : CW) (an : Anns) (f : FuncId) (args : List Value) (A : AW) (K : Value → AW → Prop) : Prop := cpo (funcA P f) fun fn => Option.rec (cpo (extA E f args A) fun p => K p.1 p.2) (fun c => bodyW P E cw fn c an args A K) fn.body
end
theorem noCall_ok : CallOK P noCall := fun _ _ _ _ _ h => by cases h
theorem bodyW_sound (hE : EnvOK P E) (hcw : CwOK P cw) {f : FuncId} {fn : Func} {c : Code} {an : Anns} {args : List Value} {A : AW} {K : Value → AW → Prop} (hf : P.funcs[f]? = some fn) (hb : fn.body = some c) (h : bodyW P E cw fn c an args A K) : ∃ v A', K v A' ∧ FnSem P f args A v A' := by
  unfold bodyW at h
  rw [cpb_iff, bleIff] at h
  obtain ⟨hle, h⟩ := h
  obtain ⟨⟨o, s⟩, h1, h2⟩ := codeW_sound hcw hE.mixed c an _ _ h
  have key : finW P E fn s K → (o = .normal ∨ o = .ret) → ∃ v A', K v A' ∧ FnSem P f args A v A' := by
    intro hfin ho
    unfold finW at hfin
    obtain ⟨A', hl, hfin⟩ := cpo_iff.1 hfin
    obtain ⟨vs, hvs, hK⟩ := cpo_iff.1 hfin
    refine ⟨_, A', hK, fun σ w args' hR ha => ?_⟩
    refine .inr ⟨f, ⟨args'⟩, entered (hE.name f fn hf) hf hb _ w, ?_⟩
    refine calls_of_wp_defers hf hb ?_
    have hS := body_SR (P := P) hle hR ha
    refine wp_mono (h1 σ A w σ _ w rfl hS (.refl hR.lim)) ?_
    rintro e a' w' ⟨rfl, σ', hS', hst⟩
    have fin : Leaves P fn a'.tmps (GoodE P σ A w (resultA vs) A') a'.defers .returning w' := by
      refine leaves_of hE noCall_ok _ _ σ' s.A w' hS'.ds hS'.rel hl fun σ2 w2 hR2 hst2 => ?_
      obtain ⟨v', e1, e2⟩ := results_run hR2 (hS'.fr.sub (hst2.sub hS'.rel.lim)) hvs
      exact ⟨v', e2, σ2, e1, hR2, hst.trans hst2⟩
    rcases ho with rfl | rfl
    · exact fin
    · exact fin
  cases o with
  | normal => exact key h2 (.inl rfl)
  | ret => exact key h2 (.inr rfl)
  | exit i => exact h2.elim
theorem fnW_sound (hE : EnvOK P E) (hcw : CwOK P cw) {f : FuncId} {an : Anns} {args : List Value} {A : AW} {K : Value → AW → Prop} (h : fnW P E cw an f args A K) : ∃ v A', K v A' ∧ FnSem P f args A v A' := by
  unfold fnW at h
  obtain ⟨fn, hf, h⟩ := cpo_iff.1 h
  have hf := funcA_some hf
  cases hb : fn.body with
  | none =>
    rw [hb] at h
    have h : cpo (extA E f args A) fun p => K p.1 p.2 := h
    obtain ⟨⟨v, A'⟩, he, hK⟩ := cpo_iff.1 h
    exact ⟨v, A', hK, fun σ w args' hR ha => ext_ok hE he hR ha⟩
  | some c => rw [hb] at h; exact bodyW_sound hE hcw hf hb h
theorem cw_fn (hE : EnvOK P E) (hcw : CwOK P cw) : CwOK P fun f args A K => fnW P E cw [] f args A K := fun _ _ _ _ h => fnW_sound hE hcw h
theorem cw_call {call : Caller} (hc : CallOK P call) : CwOK P fun f args A K => cpo (call f args A) fun p => K p.1 p.2 := fun f args A K h => by
  obtain ⟨⟨v, A'⟩, he, hK⟩ := cpo_iff.1 h
  exact ⟨v, A', hK, fun σ w args' hR ha => hc f args A v A' he σ w args' hR ha⟩
end Go.Ev
