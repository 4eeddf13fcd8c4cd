/- The evaluator with variables: code, bodies. -/
import Derived.Test.YtalbjjimnhldfaaGreatDoorEv8
section
namespace Go.Ev
variable {P : Program} {N n0 : Nat} {cw : CW}
structure JA where
  β : Type
  at_ : β → MS
  J : β → Prop
  ren : St → List (Nat × Nat)
structure LA where
  α : Type
  at_ : α → MS
  J : α → Prop
  μ : α → Nat
  ren : St → List (Nat × Nat)
  xt : Option (Nat × JA) := none
  sj : List (Nat × JA) := []
def joins (l : List (Nat × JA)) : LA := { α := Unit, at_ := fun _ => ⟨[], [], 0⟩, J := fun _ => True, μ := fun _ => 0, ren := fun _ => [], sj := l }
noncomputable section
def nLoops (c : Code) : Nat := Code.rec (motive := fun _ => Nat) 0 (fun _ _ _ => 0) (fun _ _ x y => Nat.add x y) (fun _ _ _ x y => Nat.add x y) (fun _ _ x => x) (fun _ x => Nat.succ x) (fun _ _ _ _ x y => Nat.add x y) (fun _ => 0) (fun _ x => x) (fun _ => 0) (fun _ => 0) 0 (fun _ => 0) c
abbrev Anns := List (Option LA)
abbrev CK := Ox → St → Prop
abbrev RunW := Anns → St → CK → Prop
def tlN (n : Nat) (l : Anns) : Anns := Nat.rec l (fun _ ih => List.tail ih) n
def iterW (n : Nat) (f : St → CK → Prop) : St → CK → Prop := Nat.rec (motive := fun _ => St → CK → Prop) (fun _ _ => False) (fun _ ih s K => f s fun ox s' => Ox.rec (ih s' K) (fun i => K (.exit i) s') (K .ret s') ox) n
def loopW (P : Program) (n0 : Nat) (la : LA) (f : St → CK → Prop) (s : St) (K : CK) : Prop := ∃ a0 : la.α, la.J a0 ∧ Weak P n0 (la.ren s) s (la.at_ a0) ∧ ∀ a, la.J a → f (la.at_ a).st fun ox s' =>
  Ox.rec (∃ a' : la.α, la.J a' ∧ la.μ a' < la.μ a ∧ Weak P n0 (la.ren s') s' (la.at_ a')) (fun i => K (.exit i) s') (K .ret s') ox
def joinK (P : Program) (n0 : Nat) (ja : JA) (s : St) : Prop := ∃ b : ja.β, ja.J b ∧ Weak P n0 (ja.ren s) s (ja.at_ b)
def loopX (P : Program) (n0 : Nat) (la : LA) (x : Nat × JA) (f : St → CK → Prop) (s : St) (K : CK) : Prop := (∃ a0 : la.α, la.J a0 ∧ Weak P n0 (la.ren s) s (la.at_ a0) ∧ ∀ a, la.J a → f (la.at_ a).st fun ox s' =>
  Ox.rec (∃ a' : la.α, la.J a' ∧ la.μ a' < la.μ a ∧ Weak P n0 (la.ren s') s' (la.at_ a')) (fun i => Bool.rec (K (.exit i) s') (joinK P n0 x.2 s') (Nat.beq i x.1)) (K .ret s') ox) ∧ ∀ b, x.2.J b → K (.exit x.1) (x.2.at_ b).st
def lookJ (l : List (Nat × JA)) (r : Nat) : Option JA := List.rec none (fun p _ ih => Bool.rec ih (some p.2) (Nat.beq p.1 r)) l
def findJ (an : Anns) (r : Nat) : Option JA := List.rec none (fun x _ ih => Option.rec ih (fun la => Option.rec ih (fun ja => some ja) (lookJ la.sj r)) x) an
def orR (x y : Option Nat) : Option Nat := Option.rec y (fun n => some n) x
def firstR (c : Code) : Option Nat := Code.rec (motive := fun _ => Option Nat) none (fun id _ _ => some id) (fun _ _ x y => orR x y) (fun _ _ _ x y => orR x y) (fun _ _ x => x) (fun _ x => x) (fun _ _ _ _ x y => orR x y) (fun _ => none) (fun _ x => x) (fun _ => none) (fun _ => none) none (fun _ => none) c
def joinAt (an : Anns) (y : Code) : Option JA := Option.rec none (fun r => findJ an r) (firstR y)
def condW (P : Program) (c : Operand) (s : St) (A B : Prop) : Prop := cpo (opnd P s.F c) fun v => Bool.rec (cpo (boolOf v) fun b => Bool.rec B A b) (match uval v with
  | .bool b => (b = true → A) ∧ (b = false → B)
  | _ => False) (isSym v)
def annW (P : Program) (n0 : Nat) (f : RunW) (an : Anns) (s : St) (K : CK) : Prop := match an with
  | [] => iterW 100000 (f []) s K
  | none :: an => iterW 100000 (f an) s K
  | some la :: an => Option.rec (loopW P n0 la (f an) s K) (fun x => loopX P n0 la x (f an) s K) la.xt
def codeW (P : Program) (cw : CW) (N n0 : Nat) (c : Code) : RunW := Code.rec (motive := fun _ => RunW)
  (fun _ s K => K .normal s) (fun _ ops d _ s K => Bool.rec (seqW P cw N ops.toList ops.toList s (K .normal)) (drawW P cw N ops.toList s (K .normal)) d)
  (fun x y ihx ihy an s K => Option.rec (ihx an s fun ox s' => Ox.rec (ihy (tlN (nLoops x) an) s' K) (fun i => K (.exit i) s') (K .ret s') ox)
    (fun ja => (ihx an s fun ox s' => Ox.rec (joinK P n0 ja s') (fun i => K (.exit i) s') (K .ret s') ox) ∧ ∀ b, ja.J b → ihy (tlN (nLoops x) an) (ja.at_ b).st K) (joinAt an y))
  (fun c x _ ihx ihy an s K => condW P c s (ihx an s K) (ihy (tlN (nLoops x) an) s K))
  (fun id _ ih an s K => ih an s fun ox s' => Ox.rec (K .normal s') (fun i => Bool.rec (K (.exit i) s') (K .normal s') (Nat.beq i id)) (K .ret s') ox)
  (fun _ ih an s K => annW P n0 ih an s K)
  (fun _ _ _ _ _ _ _ _ _ => False) (fun id _ s K => K (.exit id) s) (fun _ ih => ih) (fun _ _ s K => K .normal s) (fun _ _ _ _ => False) (fun _ s K => K .ret s) (fun _ _ _ _ => False) c
end
def PostW (P : Program) (N : Nat) (σ0 : Sg) (A0 : AW) (w0 : World) (p : Ox × St) (e : Exit) (a : Act) (w : World) : Prop := e = exOf p.1 ∧ ∃ σ, SR P N σ p.2 a w ∧ Step σ0 A0 w0 σ p.2.A w
def CodeSem (P : Program) (N n0 : Nat) (c : Code) (s : St) (p : Ox × St) : Prop := ∀ (σ0 : Sg) (A0 : AW) (w0 : World) (σ : Sg) (a : Act) (w : World), A0.next = n0 → SR P N σ s a w → Step σ0 A0 w0 σ s.A w → c.wp P (PostW P N σ0 A0 w0 p) a w
def LoopSem (P : Program) (N n0 : Nat) (c : Code) (s : St) (p : Ox × St) : Prop := ∀ (σ0 : Sg) (A0 : AW) (w0 : World) (σ : Sg) (a : Act) (w : World), A0.next = n0 → SR P N σ s a w → Step σ0 A0 w0 σ s.A w →
  ∀ (b : Frame) (k : List Item) (cs : List Frame), ∃ e a' w', PostW P N σ0 A0 w0 p e a' w' ∧ Arrives P (lone (b.at a (.code c :: .inLoop c :: k)) cs w) b k cs e a' w'
theorem round_normal {c : Code} {s s1 : St} {p : Ox × St} (h1 : CodeSem P N n0 c s (.normal, s1)) (h2 : LoopSem P N n0 c s1 p) : LoopSem P N n0 c s p := by
  intro σ0 A0 w0 σ a w hn hS hst b k cs
  obtain ⟨e, a₁, w₁, ⟨he, σ1, hS1, hst1⟩, harr⟩ := h1 σ0 A0 w0 σ a w hn hS hst b (.inLoop c :: k) cs
  obtain rfl : e = .normal := he
  obtain ⟨e2, a2, w2, hp, harr2⟩ := h2 σ0 A0 w0 σ1 a₁ w₁ hn hS1 hst1 b k cs
  exact ⟨e2, a2, w2, hp, .of_steps (Steps.trans harr (.one step_inLoop)) harr2⟩
theorem round_out {c : Code} {s s1 : St} {o : Ox} (h1 : CodeSem P N n0 c s (o, s1)) (ho : o ≠ .normal) : LoopSem P N n0 c s (o, s1) := by
  intro σ0 A0 w0 σ a w hn hS hst b k cs
  obtain ⟨e, a₁, w₁, ⟨he, σ1, hS1, hst1⟩, harr⟩ := h1 σ0 A0 w0 σ a w hn hS hst b (.inLoop c :: k) cs
  cases o with
  | normal => exact absurd rfl ho
  | exit i =>
    obtain rfl : e = .exit i := he
    exact ⟨_, a₁, w₁, ⟨rfl, σ1, hS1, hst1⟩, .pass (x := .inLoop c) rfl (fun _ _ => .inl (by simp [exOf])) harr⟩
  | ret =>
    obtain rfl : e = .ret := he
    exact ⟨_, a₁, w₁, ⟨rfl, σ1, hS1, hst1⟩, .pass (x := .inLoop c) rfl (fun _ _ => .inl (by simp [exOf])) harr⟩
theorem loop_of {c : Code} {s : St} {p : Ox × St} (h : LoopSem P N n0 c s p) : CodeSem P N n0 (.loop c) s p := by
  intro σ0 A0 w0 σ a w hn hS hst b k cs
  obtain ⟨e, a', w', hq, harr⟩ := h σ0 A0 w0 σ a w hn hS hst b k cs
  exact ⟨e, a', w', hq, .of_steps (.one step_loop) harr⟩
theorem weak_loop {c : Code} {l : List (Nat × Nat)} {s : St} {m : MS} {p : Ox × St} (hw : Weak P n0 l s m) (h : LoopSem P N n0 c m.st p) : LoopSem P N n0 c s p := by
  intro σ0 A0 w0 σ a w hn hS hst b k cs
  obtain ⟨σr, hS', hst'⟩ := weak_ok hw hn hS hst
  exact h σ0 A0 w0 σr a w hn hS' hst' b k cs
def RunOK (P : Program) (N n0 : Nat) (c : Code) (f : St → CK → Prop) : Prop := ∀ s K, f s K → ∃ p : Ox × St, CodeSem P N n0 c s p ∧ K p.1 p.2
theorem iterW_sound {c : Code} {f : St → CK → Prop} (hf : RunOK P N n0 c f) : ∀ (n : Nat) (s : St) (K : CK), iterW n f s K → ∃ p : Ox × St, LoopSem P N n0 c s p ∧ K p.1 p.2 := by
  intro n
  induction n with
  | zero => intro s K h; exact h.elim
  | succ n ih =>
    intro s K h
    have h : f s fun ox s' => Ox.rec (iterW n f s' K) (fun i => K (.exit i) s') (K .ret s') ox := h
    obtain ⟨⟨o, s1⟩, h1, h2⟩ := hf _ _ h
    cases o with
    | normal =>
      obtain ⟨p, h3, h4⟩ := ih s1 K h2
      exact ⟨p, round_normal h1 h3, h4⟩
    | exit i => exact ⟨(.exit i, s1), round_out h1 (by simp), h2⟩
    | ret => exact ⟨(.ret, s1), round_out h1 (by simp), h2⟩
theorem loopW_sound {c : Code} {la : LA} {f : St → CK → Prop} (hf : RunOK P N n0 c f) {s : St} {K : CK} (h : loopW P n0 la f s K) : ∃ p : Ox × St, LoopSem P N n0 c s p ∧ K p.1 p.2 := by
  obtain ⟨a0, hJ, hw, hall⟩ := h
  have key : ∀ (n : Nat) (a : la.α), la.μ a ≤ n → la.J a → ∃ p : Ox × St, LoopSem P N n0 c (la.at_ a).st p ∧ K p.1 p.2 := by
    intro n
    induction n with
    | zero =>
      intro a hn hJ
      obtain ⟨⟨o, s1⟩, h1, h2⟩ := hf _ _ (hall a hJ)
      cases o with
      | normal => obtain ⟨a', _, hlt, _⟩ := h2; omega
      | exit i => exact ⟨(.exit i, s1), round_out h1 (by simp), h2⟩
      | ret => exact ⟨(.ret, s1), round_out h1 (by simp), h2⟩
    | succ n ih =>
      intro a hn hJ
      obtain ⟨⟨o, s1⟩, h1, h2⟩ := hf _ _ (hall a hJ)
      cases o with
      | normal =>
        obtain ⟨a', hJ', hlt, hw'⟩ := h2
        obtain ⟨p, h3, h4⟩ := ih a' (by omega) hJ'
        exact ⟨p, round_normal h1 (weak_loop hw' h3), h4⟩
      | exit i => exact ⟨(.exit i, s1), round_out h1 (by simp), h2⟩
      | ret => exact ⟨(.ret, s1), round_out h1 (by simp), h2⟩
  obtain ⟨p, h1, h2⟩ := key _ a0 (Nat.le_refl _) hJ
  exact ⟨p, weak_loop hw h1, h2⟩
theorem weak_out {c : Code} {s s1 : St} {o : Ox} {l : List (Nat × Nat)} {m : MS} (h1 : CodeSem P N n0 c s (o, s1)) (hw : Weak P n0 l s1 m) : CodeSem P N n0 c s (o, m.st) := by
  intro σ0 A0 w0 σ a w hn hS hst
  refine wp_mono (h1 σ0 A0 w0 σ a w hn hS hst) ?_
  rintro e a' w' ⟨he, σ1, hS1, hst1⟩
  obtain ⟨σr, hS', hst'⟩ := weak_ok hw hn hS1 hst1
  exact ⟨he, σr, hS', hst'⟩
theorem loopX_sound {c : Code} {la : LA} {x : Nat × JA} {f : St → CK → Prop} (hf : RunOK P N n0 c f) {s : St} {K : CK} (h : loopX P n0 la x f s K) : ∃ p : Ox × St, LoopSem P N n0 c s p ∧ K p.1 p.2 := by
  obtain ⟨⟨a0, hJ, hw, hall⟩, hjoin⟩ := h
  have out : ∀ {s s1 : St} {i : Nat}, CodeSem P N n0 c s (.exit i, s1) → (Bool.rec (K (.exit i) s1) (joinK P n0 x.2 s1) (Nat.beq i x.1) : Prop) → ∃ p : Ox × St, LoopSem P N n0 c s p ∧ K p.1 p.2 := fun {s s1 i} h1 h2 => by
    cases hb : Nat.beq i x.1 with
    | false => rw [hb] at h2; exact ⟨(.exit i, s1), round_out h1 (by simp), h2⟩
    | true =>
      rw [hb] at h2
      obtain ⟨b, hJb, hwb⟩ := h2
      rw [beqIff.1 hb] at h1
      exact ⟨(.exit x.1, (x.2.at_ b).st), round_out (weak_out h1 hwb) (by simp), hjoin b hJb⟩
  have key : ∀ (n : Nat) (a : la.α), la.μ a ≤ n → la.J a → ∃ p : Ox × St, LoopSem P N n0 c (la.at_ a).st p ∧ K p.1 p.2 := by
    intro n
    induction n with
    | zero =>
      intro a hn hJ
      obtain ⟨⟨o, s1⟩, h1, h2⟩ := hf _ _ (hall a hJ)
      cases o with
      | normal => obtain ⟨a', _, hlt, _⟩ := h2; omega
      | exit i => exact out h1 h2
      | ret => exact ⟨(.ret, s1), round_out h1 (by simp), h2⟩
    | succ n ih =>
      intro a hn hJ
      obtain ⟨⟨o, s1⟩, h1, h2⟩ := hf _ _ (hall a hJ)
      cases o with
      | normal =>
        obtain ⟨a', hJ', hlt, hw'⟩ := h2
        obtain ⟨p, h3, h4⟩ := ih a' (by omega) hJ'
        exact ⟨p, round_normal h1 (weak_loop hw' h3), h4⟩
      | exit i => exact out h1 h2
      | ret => exact ⟨(.ret, s1), round_out h1 (by simp), h2⟩
  obtain ⟨p, h1, h2⟩ := key _ a0 (Nat.le_refl _) hJ
  exact ⟨p, weak_loop hw h1, h2⟩
theorem condW_some {c : Operand} {s : St} {A B : Prop} (h : condW P c s A B) : ∃ b : Bool, (cond b A B) ∧ ∀ (σ : Sg) (a : Act) (w : World), SR P N σ s a w → a.eval c = .bool b := by
  unfold condW at h
  rw [cpo_iff] at h
  obtain ⟨v, hv, h⟩ := h
  cases hs : isSym v with
  | false =>
    rw [hs] at h
    have h : cpo (boolOf v) fun b => (Bool.rec B A b : Prop) := h
    rw [cpo_iff] at h
    obtain ⟨b, hb, h⟩ := h
    rw [boolOf_some] at hb
    subst hb
    refine ⟨b, by cases b <;> exact h, fun σ a w hS => ?_⟩
    exact (hS.fr.ok hS.rel.glob [c] c (by simp) _ hv).of_flat rfl
  | true =>
    rw [hs] at h
    have h : (match uval v with
      | .bool b => (b = true → A) ∧ (b = false → B)
      | _ => False) := h
    split at h
    · rename_i b hu
      refine ⟨b, by cases b; exact h.2 rfl; exact h.1 rfl, fun σ a w hS => ?_⟩
      exact uval_bool (hS.fr.ok hS.rel.glob [c] c (by simp) _ hv) hu
    · exact h.elim
theorem codeW_sound (hcw : CwOK P cw) (hmix : P.follows .mixedOrders = true) (c : Code) : ∀ an, RunOK P N n0 c (codeW P cw N n0 c an) := by
  induction c with
  | skip => intro an s K h; exact ⟨(.normal, s), fun σ0 A0 w0 σ a w hn hS hst => wp_skip ⟨rfl, σ, hS, hst⟩, h⟩
  | label l => intro an s K h; exact ⟨(.normal, s), fun σ0 A0 w0 σ a w hn hS hst => wp_label ⟨rfl, σ, hS, hst⟩, h⟩
  | exit id => intro an s K h; exact ⟨(.exit id, s), fun σ0 A0 w0 σ a w hn hS hst => wp_exit ⟨rfl, σ, hS, hst⟩, h⟩
  | ret => intro an s K h; exact ⟨(.ret, s), fun σ0 A0 w0 σ a w hn hS hst => wp_ret ⟨rfl, σ, hS, hst⟩, h⟩
  | goto l => intro an s K h; exact False.elim h
  | refuse y => intro an s K h; exact False.elim h
  | rangeFunc f ps x y _ _ => intro an s K h; exact False.elim h
  | region id ops d =>
    intro an s K h
    obtain ⟨ops⟩ := ops
    cases d with
    | false =>
      have h : seqW P cw N ops ops s (K .normal) := h
      obtain ⟨s', hK, hrun⟩ := seqW_sound hcw ops 0 s _ rfl h
      refine ⟨(.normal, s'), fun σ0 A0 w0 σ a w hn hS hst => wp_region ?_, hK⟩
      have := hrun σ a w hS (PostW P N σ0 A0 w0 (.normal, s')) fun σ' a' w' h1 h2 => ⟨rfl, σ', h1, hst.trans h2⟩
      rwa [← List.range_eq_range'] at this
    | true =>
      have h : drawW P cw N ops s (K .normal) := h
      obtain ⟨s', hK, hrun⟩ := drawW_sound (id := id) hcw hmix h
      exact ⟨(.normal, s'), fun σ0 A0 w0 σ a w hn hS hst => hrun σ a w hS _ fun σ' a' w' h1 h2 => ⟨rfl, σ', h1, hst.trans h2⟩, hK⟩
  | seq x y ihx ihy =>
    intro an s K h
    have h : (Option.rec (codeW P cw N n0 x an s fun ox s' => Ox.rec (codeW P cw N n0 y (tlN (nLoops x) an) s' K) (fun i => K (.exit i) s') (K .ret s') ox)
      (fun ja => (codeW P cw N n0 x an s fun ox s' => Ox.rec (joinK P n0 ja s') (fun i => K (.exit i) s') (K .ret s') ox) ∧ ∀ b, ja.J b → codeW P cw N n0 y (tlN (nLoops x) an) (ja.at_ b).st K) (joinAt an y) : Prop) := h
    cases hj : joinAt an y with
    | some ja =>
      rw [hj] at h
      obtain ⟨hx, hy⟩ := h
      obtain ⟨⟨o, s1⟩, h1, h2⟩ := ihx an s _ hx
      cases o with
      | normal =>
        obtain ⟨b, hJb, hwb⟩ := h2
        obtain ⟨p, h3, h4⟩ := ihy _ _ K (hy b hJb)
        refine ⟨p, fun σ0 A0 w0 σ a w hn hS hst => wp_seq (wp_mono (weak_out h1 hwb σ0 A0 w0 σ a w hn hS hst) ?_), h4⟩
        rintro e a' w' ⟨rfl, σ1, hS1, hst1⟩
        exact h3 σ0 A0 w0 σ1 a' w' hn hS1 hst1
      | exit i =>
        refine ⟨(.exit i, s1), fun σ0 A0 w0 σ a w hn hS hst => wp_seq (wp_mono (h1 σ0 A0 w0 σ a w hn hS hst) ?_), h2⟩
        rintro e a' w' ⟨rfl, σ1, hS1, hst1⟩
        exact ⟨rfl, σ1, hS1, hst1⟩
      | ret =>
        refine ⟨(.ret, s1), fun σ0 A0 w0 σ a w hn hS hst => wp_seq (wp_mono (h1 σ0 A0 w0 σ a w hn hS hst) ?_), h2⟩
        rintro e a' w' ⟨rfl, σ1, hS1, hst1⟩
        exact ⟨rfl, σ1, hS1, hst1⟩
    | none =>
    rw [hj] at h
    obtain ⟨⟨o, s1⟩, h1, h2⟩ := ihx an s _ h
    cases o with
    | normal =>
      obtain ⟨p, h3, h4⟩ := ihy _ s1 K h2
      refine ⟨p, fun σ0 A0 w0 σ a w hn hS hst => wp_seq (wp_mono (h1 σ0 A0 w0 σ a w hn hS hst) ?_), h4⟩
      rintro e a' w' ⟨rfl, σ1, hS1, hst1⟩
      exact h3 σ0 A0 w0 σ1 a' w' hn hS1 hst1
    | exit i =>
      refine ⟨(.exit i, s1), fun σ0 A0 w0 σ a w hn hS hst => wp_seq (wp_mono (h1 σ0 A0 w0 σ a w hn hS hst) ?_), h2⟩
      rintro e a' w' ⟨rfl, σ1, hS1, hst1⟩
      exact ⟨rfl, σ1, hS1, hst1⟩
    | ret =>
      refine ⟨(.ret, s1), fun σ0 A0 w0 σ a w hn hS hst => wp_seq (wp_mono (h1 σ0 A0 w0 σ a w hn hS hst) ?_), h2⟩
      rintro e a' w' ⟨rfl, σ1, hS1, hst1⟩
      exact ⟨rfl, σ1, hS1, hst1⟩
  | cond c x y ihx ihy =>
    intro an s K h
    obtain ⟨b, hb, hev⟩ := condW_some (N := N) (show condW P c s _ _ from h)
    cases b with
    | true =>
      obtain ⟨p, h1, h2⟩ := ihx an s K hb
      exact ⟨p, fun σ0 A0 w0 σ a w hn hS hst => wp_cond (hev σ a w hS) (h1 σ0 A0 w0 σ a w hn hS hst), h2⟩
    | false =>
      obtain ⟨p, h1, h2⟩ := ihy _ s K hb
      exact ⟨p, fun σ0 A0 w0 σ a w hn hS hst => wp_cond (hev σ a w hS) (h1 σ0 A0 w0 σ a w hn hS hst), h2⟩
  | block id x ih =>
    intro an s K h
    obtain ⟨⟨o, s1⟩, h1, h2⟩ := ih an s _ h
    cases o with
    | normal =>
      refine ⟨(.normal, s1), fun σ0 A0 w0 σ a w hn hS hst => wp_block (wp_mono (h1 σ0 A0 w0 σ a w hn hS hst) ?_), h2⟩
      rintro e a' w' ⟨rfl, σ1, hS1, hst1⟩
      exact ⟨rfl, σ1, hS1, hst1⟩
    | exit i =>
      have h2 : (Bool.rec (K (.exit i) s1) (K .normal s1) (Nat.beq i id) : Prop) := h2
      cases hb : Nat.beq i id with
      | true =>
        rw [hb] at h2
        refine ⟨(.normal, s1), fun σ0 A0 w0 σ a w hn hS hst => wp_block (wp_mono (h1 σ0 A0 w0 σ a w hn hS hst) ?_), h2⟩
        rintro e a' w' ⟨rfl, σ1, hS1, hst1⟩
        show (if i = id then _ else _)
        rw [if_pos (beqIff.1 hb)]; exact ⟨rfl, σ1, hS1, hst1⟩
      | false =>
        rw [hb] at h2
        refine ⟨(.exit i, s1), fun σ0 A0 w0 σ a w hn hS hst => wp_block (wp_mono (h1 σ0 A0 w0 σ a w hn hS hst) ?_), h2⟩
        rintro e a' w' ⟨rfl, σ1, hS1, hst1⟩
        show (if i = id then _ else _)
        rw [if_neg (fun e => by rw [beqIff.2 e] at hb; cases hb)]; exact ⟨rfl, σ1, hS1, hst1⟩
    | ret =>
      refine ⟨(.ret, s1), fun σ0 A0 w0 σ a w hn hS hst => wp_block (wp_mono (h1 σ0 A0 w0 σ a w hn hS hst) ?_), h2⟩
      rintro e a' w' ⟨rfl, σ1, hS1, hst1⟩
      exact ⟨rfl, σ1, hS1, hst1⟩
  | loop x ih =>
    intro an s K h
    have h : annW P n0 (codeW P cw N n0 x) an s K := h
    unfold annW at h
    split at h
    · obtain ⟨p, h1, h2⟩ := iterW_sound (ih []) _ s K h
      exact ⟨p, loop_of h1, h2⟩
    · obtain ⟨p, h1, h2⟩ := iterW_sound (ih _) _ s K h
      exact ⟨p, loop_of h1, h2⟩
    · rename_i la an' _
      cases hx : la.xt with
      | none =>
        rw [hx] at h
        obtain ⟨p, h1, h2⟩ := loopW_sound (ih _) h
        exact ⟨p, loop_of h1, h2⟩
      | some x =>
        rw [hx] at h
        obtain ⟨p, h1, h2⟩ := loopX_sound (ih _) h
        exact ⟨p, loop_of h1, h2⟩
  | scope x ih =>
    intro an s K h
    obtain ⟨⟨o, s1⟩, h1, h2⟩ := ih an s K h
    refine ⟨(o, s1), fun σ0 A0 w0 σ a w hn hS hst => wp_scope_straight (wp_mono (h1 σ0 A0 w0 σ a w hn hS hst) ?_), h2⟩
    rintro e a' w' ⟨rfl, σ', k1, k2⟩
    cases o <;> exact ⟨rfl, σ', k1, k2⟩
end Go.Ev
end

/- The evaluator with variables: bodies; what a function comes to. -/
namespace Go.Ev
variable {P : Program} {cw : CW} {E : Env}
noncomputable section
def noCall : Caller := fun _ _ _ => none
def finW (P : Program) (E : Env) (fn : Func) (s : St) (K : Value → AW → Prop) : Prop := cpo (leaveA P noCall E.dh s.ds s.A) fun A => cpo (resA P s.F A.heap fn.results.toList) fun vs => K (resultA vs) A
def bodyW (P : Program) (E : Env) (cw : CW) (fn : Func) (c : Code) (an : Anns) (args : List Value) (A : AW) (K : Value → AW → Prop) : Prop := cpb (Nat.ble args.length fn.ntmps)
  (codeW P cw fn.ntmps A.next c an ⟨frameOf args 0 .e, A, []⟩ fun ox s => Ox.rec (finW P E fn s K) (fun _ => False) (finW P E fn s K) ox)
def fnW (P : Program) (E : Env) (cw : CW) (an : Anns) (f : FuncId) (args : List Value) (A : AW) (K : Value → AW → Prop) : Prop := cpo (funcA P f) fun fn => Option.rec (cpo (extA E f args A) fun p => K p.1 p.2) (fun c => bodyW P E cw fn c an args A K) fn.body
end
theorem noCall_ok : CallOK P noCall := fun _ _ _ _ _ h => by cases h
theorem bodyW_sound (hE : EnvOK P E) (hcw : CwOK P cw) {f : FuncId} {fn : Func} {c : Code} {an : Anns} {args : List Value} {A : AW} {K : Value → AW → Prop} (hf : P.funcs[f]? = some fn) (hb : fn.body = some c) (h : bodyW P E cw fn c an args A K) : ∃ v A', K v A' ∧ FnSem P f args A v A' := by
  unfold bodyW at h
  rw [cpb_iff, bleIff] at h
  obtain ⟨hle, h⟩ := h
  obtain ⟨⟨o, s⟩, h1, h2⟩ := codeW_sound hcw hE.mixed c an _ _ h
  have key : finW P E fn s K → (o = .normal ∨ o = .ret) → ∃ v A', K v A' ∧ FnSem P f args A v A' := by
    intro hfin ho
    unfold finW at hfin
    obtain ⟨A', hl, hfin⟩ := cpo_iff.1 hfin
    obtain ⟨vs, hvs, hK⟩ := cpo_iff.1 hfin
    refine ⟨_, A', hK, fun σ w args' hR ha => ?_⟩
    refine .inr ⟨f, ⟨args'⟩, entered (hE.name f fn hf) hf hb _ w, ?_⟩
    refine calls_of_wp_defers hf hb ?_
    have hS := body_SR (P := P) hle hR ha
    refine wp_mono (h1 σ A w σ _ w rfl hS (.refl hR.lim)) ?_
    rintro e a' w' ⟨rfl, σ', hS', hst⟩
    have fin : Leaves P fn a'.tmps (GoodE P σ A w (resultA vs) A') a'.defers .returning w' := by
      refine leaves_of hE noCall_ok _ _ σ' s.A w' hS'.ds hS'.rel hl fun σ2 w2 hR2 hst2 => ?_
      obtain ⟨v', e1, e2⟩ := results_run hR2 (hS'.fr.sub (hst2.sub hS'.rel.lim)) hvs
      exact ⟨v', e2, σ2, e1, hR2, hst.trans hst2⟩
    rcases ho with rfl | rfl
    · exact fin
    · exact fin
  cases o with
  | normal => exact key h2 (.inl rfl)
  | ret => exact key h2 (.inr rfl)
  | exit i => exact h2.elim
theorem fnW_sound (hE : EnvOK P E) (hcw : CwOK P cw) {f : FuncId} {an : Anns} {args : List Value} {A : AW} {K : Value → AW → Prop} (h : fnW P E cw an f args A K) : ∃ v A', K v A' ∧ FnSem P f args A v A' := by
  unfold fnW at h
  obtain ⟨fn, hf, h⟩ := cpo_iff.1 h
  have hf := funcA_some hf
  cases hb : fn.body with
  | none =>
    rw [hb] at h
    have h : cpo (extA E f args A) fun p => K p.1 p.2 := h
    obtain ⟨⟨v, A'⟩, he, hK⟩ := cpo_iff.1 h
    exact ⟨v, A', hK, fun σ w args' hR ha => ext_ok hE he hR ha⟩
  | some c => rw [hb] at h; exact bodyW_sound hE hcw hf hb h
theorem cw_fn (hE : EnvOK P E) (hcw : CwOK P cw) : CwOK P fun f args A K => fnW P E cw [] f args A K := fun _ _ _ _ h => fnW_sound hE hcw h
end Go.Ev

/- The evaluator with variables: what is told of a function, in a memory of its own; a call of it. -/
section
namespace Go.Ev
variable {P : Program} {σ : Sg} {w : World}
structure Spec where
  f : FuncId
  α : Type
  args : α → List Value
  R : α → List (Nat × PO)
  n : Nat
  pre : α → Prop
  post : α → (Value → List (Nat × PO) → Nat → Prop) → Prop
def FlatR (R : List (Nat × PO)) : Prop := ∀ i c e m, (i, PO.f c e m) ∈ R → FlatL c
def SpecAt (P : Program) (S : Spec) (a : S.α) : Prop := ∀ K, S.pre a → S.post a K → ∃ v R' n', K v R' n' ∧ FlatR R' ∧ FnSem P S.f (S.args a) (mem (S.R a) S.n) v (mem R' n')
def SpecOK (P : Program) (S : Spec) : Prop := ∀ a, SpecAt P S a
noncomputable section
def rnS (r : Nat → Option Nat) (v : Value) : Option Value := match v with
  | .pointer (some ⟨b, o, none⟩) => ob (r b) fun b' => some (.pointer (some ⟨b', o, none⟩))
  | .slice (some ⟨b, o, none⟩) l c => ob (r b) fun b' => some (.slice (some ⟨b', o, none⟩) l c)
  | .map (some b) => ob (r b) fun b' => some (.map (some b'))
  | v => bt (flat v) (some v)
def rnMN (r : Nat → Option Nat) (x : Value) : Option Value := match x with
  | .agg ⟨[.bool nb, .slice (some ⟨i, o, none⟩) l c]⟩ => Option.rec (bt nb (some (.slice none 0 0))) (fun j => some (.iface MN (.agg ⟨[.bool nb, .slice (some ⟨j, o, none⟩) l c]⟩))) (r i)
  | _ => none
def rnV (r : Nat → Option Nat) (n : Nat) : Value → Option Value := Nat.rec (motive := fun _ => Value → Option Value) (fun _ => none) (fun _ ih v => match v with
  | .func fn f c => ob (omap ih f.toList) fun f' => ob (omap ih c.toList) fun c' => some (.func fn ⟨f'⟩ ⟨c'⟩)
  | .iface t x => Bool.rec (ob (ih x) fun y => some (.iface t y)) (rnMN r x) (Nat.beq t MN)
  | .agg c => ob (omap ih c.toList) fun c' => some (.agg ⟨c'⟩)
  | .tuple c => ob (omap ih c.toList) fun c' => some (.tuple ⟨c'⟩)
  | v => rnS r v) n
def rnE (r : Nat → Option Nat) (l : List MapEntry) : Option (List MapEntry) := omap (fun e => ob (rnV r 6 e.val) fun v => some { e with val := v }) l
def rnP (r : Nat → Option Nat) (q : PO) : Option PO := match q with
  | .p (.row c e m) => ob (omap (rnV r 6) c) fun c' => some (.p (.row c' e m))
  | .p (.map es k) => ob (rnE r es) fun es' => some (.p (.map es' k))
  | .p .dead => some (.p .dead)
  | .f c e m => some (.f c e m)
def rnR (r : Nat → Option Nat) (l : List (Nat × PO)) : Option (List (Nat × PO)) := List.rec (some []) (fun p _ ih => Option.rec ih (fun j => ob (rnP r p.2) fun q => ob ih fun U => some ((j, q) :: U)) (r p.1)) l
def putR (l : List (Nat × PO)) (H : T AO) : T AO := List.rec H (fun p _ ih => T.set ih p.1 p.2.ao) l
def keyR (i : Nat) (l : List (Nat × PO)) : Bool := List.rec false (fun p _ ih => Bool.rec ih true (Nat.beq i p.1)) l
def onceR (l : List (Nat × PO)) : Bool := List.rec true (fun p l ih => Bool.rec false ih (bnot (keyR p.1 l))) l
def mayWP (q : PO) : Bool := match q with
  | .p (.row _ _ m) => m.writes
  | .p (.map _ _) => true
  | .p .dead => false
  | .f _ _ m => m.writes
def keepR (R R' : List (Nat × PO)) : Bool := List.rec true (fun p _ ih => Bool.rec false ih (Bool.rec true (keyR p.1 R') (mayWP p.2))) R
def rho (ng n base : Nat) (l : List (Nat × Nat)) (i : Nat) : Option Nat := Bool.rec (some (Nat.add base (Nat.sub i n))) (rnm ng l i) (Nat.blt i n)
def backW (ng n base : Nat) (l : List (Nat × Nat)) (R : List (Nat × PO)) (H : T AO) (K : Value → AW → Prop) (v : Value) (R' : List (Nat × PO)) (n' : Nat) : Prop :=
  cpo (rnV (rho ng n base l) 6 v) fun u => cpo (rnR (rho ng n base l) R') fun U => cpb (onceR R' && (keepR R R' && lall (fun p => Nat.blt p.1 (Nat.add base (Nat.sub n' n))) U)) (K u ⟨putR U H, Nat.add base (Nat.sub n' n)⟩)
def callW (P : Program) (S : Spec) (J : S.α → Prop) (args : List Value) (A : AW) (K : Value → AW → Prop) : Prop := ∃ (a : S.α) (l : List (Nat × Nat)), J a ∧ S.pre a ∧ cpb (okMS P.globals.size P.globals.size l ⟨[], S.R a, S.n⟩)
  (wvL (wv (rnm P.globals.size l) 5) (S.args a) args ∧ rowsW (rnm P.globals.size l) A.heap (S.R a) ∧ S.post a (backW P.globals.size S.n A.next l (S.R a) A.heap K))
def seenW (P : Program) (n0 : Nat) (l : List (Nat × Nat)) (v : Value) (A : AW) (v0 : Value) (R' : List (Nat × PO)) (n' : Nat) : Prop := cpb (okMS P.globals.size n0 l ⟨[], R', n'⟩) (wv (rnm n0 l) 5 v0 v ∧ rowsW (rnm n0 l) A.heap R')
def endW (P : Program) (S : Spec) (K : Value → List (Nat × PO) → Nat → Prop) (v : Value) (A : AW) : Prop := ∃ v0 R' n' l, K v0 R' n' ∧ seenW P S.n l v A v0 R' n'
end
theorem flatR_rows {r : Nat → Option Nat} {H : T AO} {R : List (Nat × PO)} (h : rowsW r H R) : FlatR R := fun i c e m hm => by
  cases hj : r i with
  | none => exact (rowsW_none h i _ hm hj).1
  | some j =>
  obtain ⟨o', _, h3⟩ := rowsW_mem h i _ hm j hj
  cases o' with
  | row c' e' m' =>
    have h3 : cpb (Nat.beq e e') (wmd m m' c' ∧ FlatL c ∧ c = c') := h3
    exact (cpb_iff.1 h3).2.2.1
  | _ => exact h3.elim
theorem fnSem_seen {f : FuncId} {args : List Value} {A B : AW} {v v0 : Value} {R' : List (Nat × PO)} {n' n0 : Nat} {l : List (Nat × Nat)} (hn : A.next = n0) (h : FnSem P f args A v B) (hs : seenW P n0 l v B v0 R' n') : FnSem P f args A v0 (mem R' n') := by
  unfold seenW at hs
  obtain ⟨hok, hv, hr⟩ := cpb_iff.1 hs
  intro σ w args' hR ha
  have good : ∀ v' w', Good P σ A w v B v' w' → Good P σ A w v0 (mem R' n') v' w' := by
    rintro v' w' ⟨σ', h1, h2, h3⟩
    exact ⟨_, wv_vr (ren_sgOf _) 5 _ _ _ hv h1, rel_weak hok hr h2, step_weak hn hok hr h3⟩
  rcases h σ w args' hR ha with ⟨v', w', e, hg⟩ | ⟨g, as_, e, hg⟩
  · exact .inl ⟨v', w', e, good v' w' hg⟩
  · refine .inr ⟨g, as_, e, Calls.mono hg fun en w' he => ?_⟩
    cases en with
    | returned v' => exact good v' w' he
    | _ => exact he.elim
theorem rnS_vr {r : Nat → Option Nat} {σs σ' : Sg} (hr : ∀ i j p, r i = some j → σs i = some p → σ' j = some p) {v u v' : Value} (h : rnS r v = some u) (k : VR σs v v') : VR σ' u v' := by
  unfold rnS at h
  split at h
  · rw [ob_some] at h
    obtain ⟨j, hj, h⟩ := h; cases h
    obtain ⟨b, d, e, rfl⟩ := k.ptr_inv
    exact .ptr (hr _ _ _ hj e)
  · rw [ob_some] at h
    obtain ⟨j, hj, h⟩ := h; cases h
    cases k with
    | slice e => exact .slice (hr _ _ _ hj e)
    | flat f => cases f
  · rw [ob_some] at h
    obtain ⟨j, hj, h⟩ := h; cases h
    cases k with
    | map e => exact .map (hr _ _ _ hj e)
    | flat f => cases f
  · rw [bt_some] at h
    obtain ⟨hf, h⟩ := h; cases h
    rw [k.of_flat hf]; exact .flat hf
def plainV : Value → Bool
  | .func _ _ _ | .iface _ _ | .agg _ | .tuple _ => false
  | _ => true
theorem rnV_plain {r : Nat → Option Nat} {n : Nat} {v : Value} (e : plainV v = true) : rnV r (n + 1) v = rnS r v := by cases v <;> first | rfl | (cases e)
theorem rnV_scal {r : Nat → Option Nat} {n : Nat} {v : Value} (e : isScal v = true) : rnV r (n + 1) v = rnS r v := by cases v <;> first | rfl | (cases e)
theorem rnS_scal {r : Nat → Option Nat} {v u : Value} (e : isScal v = true) (h : rnS r v = some u) : isScal u = true := by
  unfold rnS at h
  split at h
  · rw [ob_some] at h; obtain ⟨_, _, h⟩ := h; cases h; rfl
  · rw [ob_some] at h; obtain ⟨_, _, h⟩ := h; cases h; rfl
  · cases e
  · rw [bt_some] at h; obtain ⟨_, h⟩ := h; cases h; exact e
theorem omap_vr {f : Value → Option Value} {σs σ' : Sg} (hf : ∀ v u v', f v = some u → VR σs v v' → VR σ' u v') : ∀ {l m l' : List Value}, omap f l = some m → VRL σs l l' → VRL σ' m l' := by
  intro l
  induction l with
  | nil => intro m l' h k; have := omap_nil.1 h; subst this; cases k; exact .nil
  | cons x l ih =>
    intro m l' h k
    obtain ⟨y, ys, h1, h2, rfl⟩ := omap_cons.1 h
    cases k with
    | cons a b => exact .cons (hf _ _ _ h1 a) (ih h2 b)
theorem rnV_vr {r : Nat → Option Nat} {σs σ' : Sg} (hr : ∀ i j p, r i = some j → σs i = some p → σ' j = some p) : ∀ (n : Nat) (v u v' : Value), rnV r n v = some u → VR σs v v' → VR σ' u v' := by
  intro n
  induction n with
  | zero => intro v u v' h; cases h
  | succ n ih =>
    intro v u v' h k
    cases v with
    | func fn f c =>
      have h : (ob (omap (rnV r n) f.toList) fun f' => ob (omap (rnV r n) c.toList) fun c' => some (Value.func fn ⟨f'⟩ ⟨c'⟩)) = some u := h
      simp only [ob_some, Option.some.injEq] at h
      obtain ⟨f1, h1, c1, h2, rfl⟩ := h
      cases k with
      | func a b => exact .func (omap_vr ih h1 a) (omap_vr ih h2 b)
      | flat f => cases f
    | iface t x =>
      have h : (Bool.rec (ob (rnV r n x) fun y => some (Value.iface t y)) (rnMN r x) (Nat.beq t MN) : Option Value) = some u := h
      cases hb : Nat.beq t MN with
      | true =>
        rw [hb] at h
        have h : rnMN r x = some u := h
        rw [beqIff] at hb; subst hb
        have mnSYM : ¬ MN = SYM := by decide
        have mnUNK : ¬ MN = UNK := by decide
        cases k with
        | flat f => cases f
        | iface e a => exact absurd e noMN
        | mnil e f g =>
          rename_i nb i o l c _ _
          have h : (Option.rec (bt nb (some (.slice none 0 0))) (fun j => some (.iface MN (.agg ⟨[.bool nb, .slice (some ⟨j, o, none⟩) l c]⟩))) (r i) : Option Value) = some u := h
          cases hj : r i with
          | none => rw [hj] at h; subst e; cases h; exact .flat rfl
          | some j => rw [hj] at h; cases h; exact .mnil e f g
        | mn e f =>
          rename_i nb i o b d l c _ _
          have h : (Option.rec (bt nb (some (.slice none 0 0))) (fun j => some (.iface MN (.agg ⟨[.bool nb, .slice (some ⟨j, o, none⟩) l c]⟩))) (r i) : Option Value) = some u := h
          cases hj : r i with
          | none => rw [hj] at h; subst e; cases h
          | some j => rw [hj] at h; cases h; exact .mn e (hr _ _ _ hj f)
      | false =>
      rw [hb] at h
      have h : (ob (rnV r n x) fun y => some (Value.iface t y)) = some u := h
      simp only [ob_some, Option.some.injEq] at h
      obtain ⟨y, h1, rfl⟩ := h
      cases k with
      | flat f => cases f
      | iface e a => exact .iface e (ih _ _ _ h1 a)
      | sym e a =>
        have hy := ih _ _ _ h1 a
        refine .sym ?_ hy
        cases n with
        | zero => cases h1
        | succ n =>
          rw [rnV_scal e] at h1
          exact rnS_scal e h1
      | any e =>
        cases n with
        | zero => cases h1
        | succ n =>
          have h1 : rnS r .nilIface = some y := h1
          have h1 : some Value.nilIface = some y := h1
          cases h1; exact .any e
      | mnil => exact Bool.noConfusion (show (true : Bool) = false from hb)
      | mn => exact Bool.noConfusion (show (true : Bool) = false from hb)
    | agg c =>
      have h : (ob (omap (rnV r n) c.toList) fun c' => some (Value.agg ⟨c'⟩)) = some u := h
      simp only [ob_some, Option.some.injEq] at h
      obtain ⟨c1, h1, rfl⟩ := h
      cases k with
      | agg a => exact .agg (omap_vr ih h1 a)
      | flat f => cases f
    | tuple c =>
      have h : (ob (omap (rnV r n) c.toList) fun c' => some (Value.tuple ⟨c'⟩)) = some u := h
      simp only [ob_some, Option.some.injEq] at h
      obtain ⟨c1, h1, rfl⟩ := h
      cases k with
      | tuple a => exact .tuple (omap_vr ih h1 a)
      | flat f => cases f
    | _ => rw [rnV_plain rfl] at h; exact rnS_vr hr h k
theorem rnE_er {r : Nat → Option Nat} {σs σ' : Sg} (hr : ∀ i j p, r i = some j → σs i = some p → σ' j = some p) : ∀ {l m l' : List MapEntry}, rnE r l = some m → ER σs l l' → ER σ' m l' := by
  intro l
  induction l with
  | nil => intro m l' h k; have := omap_nil.1 h; subst this; cases k; exact .nil
  | cons x l ih =>
    intro m l' h k
    obtain ⟨y, ys, h1, h2, rfl⟩ := omap_cons.1 h
    simp only [ob_some, Option.some.injEq] at h1
    obtain ⟨v, h3, rfl⟩ := h1
    cases k with
    | cons a b c d e => exact .cons a b (rnV_vr hr 6 _ _ _ h3 c) d (ih h2 e)
theorem rnP_or {r : Nat → Option Nat} {σs σ' : Sg} (hr : ∀ i j p, r i = some j → σs i = some p → σ' j = some p) {d : Nat} {q q' : PO} {x : Obj} (hfl : ∀ c e m, q = .f c e m → FlatL c) (h : rnP r q = some q') (k : OR P σs d q.ao x) : OR P σ' d q'.ao x := by
  have row : ∀ (c c' : List Value) (e : TypeId) (m : Md), (∀ xs, VRL σs c xs → VRL σ' c' xs) → OR P σs d (.row c e m) x → OR P σ' d (.row c' e m) x := by
    intro c c' e m hc k
    cases x with
    | cells cs ty fz =>
      obtain ⟨k1, k2⟩ := k
      obtain ⟨as_, x, e1, e2, e3⟩ := k2.cells
      exact ⟨k1, ⟨as_, x, e1, hc as_ e2, e3⟩, k2.exact_, k2.cap, k2.free⟩
    | _ => exact k.elim
  cases q with
  | p o =>
    cases o with
    | row c e m =>
      have h : (ob (omap (rnV r 6) c) fun c' => some (PO.p (.row c' e m))) = some q' := h
      simp only [ob_some, Option.some.injEq] at h
      obtain ⟨c', hc, rfl⟩ := h
      exact row c c' e m (fun xs hx => omap_vr (rnV_vr hr 6) hc hx) k
    | map es n =>
      have h : (ob (rnE r es) fun es' => some (PO.p (.map es' n))) = some q' := h
      simp only [ob_some, Option.some.injEq] at h
      obtain ⟨es', hc, rfl⟩ := h
      cases x with
      | map ms mk => exact ⟨k.1, rnE_er hr hc k.2⟩
      | _ => exact k.elim
    | dead => exact k.elim
  | f c e m =>
    have h : some (PO.f c e m) = some q' := h
    cases h
    exact row c c e m (fun xs hx => flatL_vr (hfl c e m rfl) hx) k
theorem rnP_same {r : Nat → Option Nat} {q q' : PO} (h : rnP r q = some q') : live q'.ao = live q.ao ∧ mayW q'.ao = mayW q.ao := by
  cases q with
  | p o =>
    cases o with
    | row c e m =>
      have h : (ob (omap (rnV r 6) c) fun c' => some (PO.p (.row c' e m))) = some q' := h
      simp only [ob_some, Option.some.injEq] at h
      obtain ⟨c', _, rfl⟩ := h; exact ⟨rfl, rfl⟩
    | map es n =>
      have h : (ob (rnE r es) fun es' => some (PO.p (.map es' n))) = some q' := h
      simp only [ob_some, Option.some.injEq] at h
      obtain ⟨c', _, rfl⟩ := h; exact ⟨rfl, rfl⟩
    | dead => cases h; exact ⟨rfl, rfl⟩
  | f c e m => cases h; exact ⟨rfl, rfl⟩
theorem keyR_iff {i : Nat} : ∀ {l : List (Nat × PO)}, keyR i l = true ↔ ∃ q, (i, q) ∈ l := by
  intro l
  induction l with
  | nil => exact ⟨fun h => (by cases h), fun ⟨_, h⟩ => (by cases h)⟩
  | cons p l ih =>
    have e : keyR i (p :: l) = (Bool.rec (keyR i l) true (Nat.beq i p.1) : Bool) := rfl
    rw [e]
    cases hb : Nat.beq i p.1 with
    | true =>
      have := beqIff.1 hb
      exact ⟨fun _ => ⟨p.2, by rw [this]; exact List.mem_cons_self⟩, fun _ => rfl⟩
    | false =>
      refine ⟨fun h => ?_, fun ⟨q, h⟩ => ?_⟩
      · obtain ⟨q, hq⟩ := ih.1 h; exact ⟨q, List.mem_cons_of_mem _ hq⟩
      · rcases List.mem_cons.1 h with e2 | h
        · rw [← e2] at hb; rw [beqIff.2 rfl] at hb; cases hb
        · exact ih.2 ⟨q, h⟩
theorem tput_mem : ∀ {l : List (Nat × PO)}, onceR l = true → ∀ i q, (i, q) ∈ l → (tput PO.ao l).get i = some q.ao := by
  intro l
  induction l with
  | nil => intro _ i q h; cases h
  | cons p l ih =>
    intro ho i q h
    have ho : (Bool.rec false (onceR l) (bnot (keyR p.1 l)) : Bool) = true := ho
    rw [recTrue, bnot_eq] at ho
    show (T.set (tput PO.ao l) p.1 p.2.ao).get i = _
    rw [get_set]
    rcases List.mem_cons.1 h with e | h
    · rw [← e]; simp
    · rw [if_neg]
      · exact ih (by first | exact ho.1 | exact ho.2) i q h
      · intro e
        have : keyR p.1 l = true := keyR_iff.2 ⟨q, by rw [← e]; exact h⟩
        rw [this] at ho
        simp at ho
theorem putR_get {H : T AO} {k : Nat} {o : AO} : ∀ {U : List (Nat × PO)}, (putR U H).get k = some o → (∃ q, (k, q) ∈ U ∧ o = q.ao) ∨ (keyR k U = false ∧ H.get k = some o) := by
  intro U
  induction U with
  | nil => intro h; exact .inr ⟨rfl, h⟩
  | cons p U ih =>
    intro h
    have h : (T.set (putR U H) p.1 p.2.ao).get k = some o := h
    rw [get_set] at h
    by_cases e : k = p.1
    · rw [if_pos e] at h; cases h; exact .inl ⟨p.2, by rw [e]; exact List.mem_cons_self, rfl⟩
    · rw [if_neg e] at h
      rcases ih h with ⟨q, h1, h2⟩ | ⟨h1, h2⟩
      · exact .inl ⟨q, List.mem_cons_of_mem _ h1, h2⟩
      · refine .inr ⟨?_, h2⟩
        show (Bool.rec (keyR k U) true (Nat.beq k p.1) : Bool) = false
        cases hb : Nat.beq k p.1 with
        | true => exact absurd (beqIff.1 hb) e
        | false => exact h1
theorem rnR_mem {r : Nat → Option Nat} : ∀ {R U : List (Nat × PO)}, rnR r R = some U → (∀ k q', (k, q') ∈ U → ∃ i q, (i, q) ∈ R ∧ r i = some k ∧ rnP r q = some q') ∧ (∀ i q k, (i, q) ∈ R → r i = some k → ∃ q', (k, q') ∈ U) := by
  intro R
  induction R with
  | nil => intro U h; cases h; exact ⟨fun _ _ h => (nomatch h), fun _ _ _ h => (nomatch h)⟩
  | cons p R ih =>
    intro U h
    have h : (Option.rec (rnR r R) (fun j => ob (rnP r p.2) fun q => ob (rnR r R) fun U => some ((j, q) :: U)) (r p.1) : Option (List (Nat × PO))) = some U := h
    cases hj : r p.1 with
    | none =>
      rw [hj] at h
      obtain ⟨ih1, ih2⟩ := ih (show rnR r R = some U from h)
      refine ⟨fun k q' hm => ?_, fun i q k hm hk => ?_⟩
      · obtain ⟨i, q, a, b, c⟩ := ih1 k q' hm; exact ⟨i, q, List.mem_cons_of_mem _ a, b, c⟩
      · rcases List.mem_cons.1 hm with e | hm
        · cases e; rw [hj] at hk; cases hk
        · exact ih2 i q k hm hk
    | some j =>
      rw [hj] at h
      have h : (ob (rnP r p.2) fun q => ob (rnR r R) fun U => some ((j, q) :: U)) = some U := h
      simp only [ob_some, Option.some.injEq] at h
      obtain ⟨q1, hq, ys, h2, rfl⟩ := h
      obtain ⟨ih1, ih2⟩ := ih h2
      refine ⟨fun k q' hm => ?_, fun i q k hm hk => ?_⟩
      · rcases List.mem_cons.1 hm with e | hm
        · cases e; exact ⟨p.1, p.2, List.mem_cons_self, hj, hq⟩
        · obtain ⟨i, q, a, b, c⟩ := ih1 k q' hm; exact ⟨i, q, List.mem_cons_of_mem _ a, b, c⟩
      · rcases List.mem_cons.1 hm with e | hm
        · cases e; rw [hj] at hk; cases hk; exact ⟨q1, List.mem_cons_self⟩
        · obtain ⟨q', b⟩ := ih2 i q k hm hk; exact ⟨q', List.mem_cons_of_mem _ b⟩
theorem mayWP_ao (q : PO) : mayWP q = mayW q.ao := by
  cases q with
  | p o => cases o <;> rfl
  | f c e m => rfl
theorem keepR_mem {R' : List (Nat × PO)} : ∀ {R : List (Nat × PO)}, keepR R R' = true → ∀ i q, (i, q) ∈ R → mayW q.ao = true → keyR i R' = true := by
  intro R
  induction R with
  | nil => intro _ i q h; cases h
  | cons p R ih =>
    intro h i q hm hw
    have h : (Bool.rec false (keepR R R') (Bool.rec true (keyR p.1 R') (mayWP p.2)) : Bool) = true := h
    rw [recTrue] at h
    obtain ⟨h1, h2⟩ := h
    rcases List.mem_cons.1 hm with e | hm
    · rw [← e] at h1
      simp only [mayWP_ao, hw] at h1
      exact h1
    · exact ih h2 i q hm hw
end Go.Ev
end
