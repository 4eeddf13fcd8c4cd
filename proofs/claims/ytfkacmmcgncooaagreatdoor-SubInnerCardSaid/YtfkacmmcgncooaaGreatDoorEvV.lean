/- The evaluator: calls that are told of: a call over a small memory is one over a greater one. -/
import Derived.Test.YtfkacmmcgncooaaGreatDoorEvS
import Derived.Below
import GoSem.ClaimJoined
set_option linter.unusedSectionVars false
namespace Go.Ev
noncomputable section
def leq {α : Type} (f : α → α → Bool) (l : List α) : List α → Bool := List.rec (motive := fun _ => List α → Bool) (fun m => List.rec true (fun _ _ _ => false) m)
  (fun a _ ih m => List.rec false (fun b m _ => Bool.rec false (ih m) (f a b)) m) l
def veqD (n : Nat) : Value → Value → Bool := Nat.rec (motive := fun _ => Value → Value → Bool) veq (fun _ ih x y => match x with
  | .agg a => match y with
    | .agg b => leq ih a.toList b.toList
    | _ => false
  | .tuple a => match y with
    | .tuple b => leq ih a.toList b.toList
    | _ => false
  | .func (.func f) a c => match y with
    | .func (.func g) b d => Bool.rec false (Bool.rec false (leq ih c.toList d.toList) (leq ih a.toList b.toList)) (Nat.beq f g)
    | _ => false
  | .iface t v => match y with
    | .iface u w => Bool.rec false (ih v w) (Nat.beq t u)
    | _ => false
  | x => veq x y) n
def veq6 : Value → Value → Bool := veqD 6
def mdEq (a b : Md) : Bool := match a with
  | .own => match b with
    | .own => true
    | _ => false
  | .ro => match b with
    | .ro => true
    | _ => false
  | .grown m => match b with
    | .grown n => Nat.beq m n
    | _ => false
  | .gro => match b with
    | .gro => true
    | _ => false
def entEq (a b : MapEntry) : Bool := Bool.rec false (Bool.rec false (Nat.beq a.born b.born) (veq6 a.val b.val)) (veq6 a.key b.key)
def aoEq (a b : AO) : Bool := match a with
  | .row c e m => match b with
    | .row c' e' m' => Bool.rec false (Bool.rec false (leq veq6 c c') (mdEq m m')) (Nat.beq e e')
    | _ => false
  | .map es k => match b with
    | .map es' k' => Bool.rec false (leq entEq es es') (Nat.beq k k')
    | _ => false
  | .dead => match b with
    | .dead => true
    | _ => false
structure Hook where
  f : FuncId
  args : List Value
  H : List (Nat × AO)
  base : Nat
  v : Value
  R : List (Nat × AO)
  next : Nat
def putAll (l : List (Nat × AO)) : T AO → T AO := List.rec (motive := fun _ => T AO → T AO) (fun H => H) (fun p _ ih H => ih (H.set p.1 p.2)) l
def liesB (l : List (Nat × AO)) (H : T AO) : Bool := List.rec true (fun p _ ih => Bool.rec false ih (Option.rec false (fun o => aoEq o p.2) (H.get p.1))) l
def keyB (i : Nat) (l : List (Nat × AO)) : Bool := List.rec false (fun p _ ih => Bool.rec ih true (Nat.beq i p.1)) l
def mayWB (o : AO) : Bool := match o with
  | .row _ _ m => m.writes
  | .map _ _ => true
  | .dead => false
def keepB (H R : List (Nat × AO)) : Bool := List.rec true (fun p _ ih => Bool.rec false ih (Bool.rec true (keyB p.1 R) (mayWB p.2))) H
def hookRes (h : Hook) (x : Option (Value × AW)) : Bool := Option.rec false (fun p => Bool.rec false (Bool.rec false (liesB h.R p.2.heap) (Nat.beq p.2.next h.next)) (veq6 p.1 h.v)) x
def hookFits (h : Hook) (f : FuncId) (args : List Value) (A : AW) : Bool := Bool.rec false (Bool.rec false (Bool.rec false (liesB h.H A.heap) (Nat.ble A.next h.base)) (leq veq6 args h.args)) (Nat.beq f h.f)
def hookCall (h : Hook) (c : Caller) (f : FuncId) (args : List Value) (A : AW) : Option (Value × AW) := Bool.rec (c f args A) (some (h.v, ⟨putAll h.R A.heap, h.next⟩)) (hookFits h f args A)
def onceB (l : List (Nat × AO)) : Bool := List.rec true (fun p l ih => Bool.rec false ih (bnot (keyB p.1 l))) l
def hookShape (h : Hook) : Bool := Bool.rec false (Bool.rec false (onceB h.H) (onceB h.R)) (keepB h.H h.R)
end
theorem leq_eq {α : Type} {f : α → α → Bool} (hf : ∀ a b, f a b = true → a = b) : ∀ {l m : List α}, leq f l m = true → l = m := by
  intro l
  induction l with
  | nil => intro m h; cases m with
    | nil => rfl
    | cons b m => cases h
  | cons a l ih =>
    intro m h
    cases m with
    | nil => cases h
    | cons b m =>
      obtain ⟨h1, h2⟩ := recTrue.1 (show (Bool.rec false (leq f l m) (f a b) : Bool) = true from h)
      rw [ih h2, hf a b h1]
theorem veqD_eq : ∀ (n : Nat) (x y : Value), veqD n x y = true → x = y := by
  intro n
  induction n with
  | zero => intro x y h; exact veq_eq h
  | succ n ih =>
    intro x y h
    cases x with
    | agg a => cases y <;> first | (cases h; done) | (rename_i b; have h : leq (veqD n) a.toList b.toList = true := h; rw [Array.toList_inj.1 (leq_eq ih h)])
    | tuple a => cases y <;> first | (cases h; done) | (rename_i b; have h : leq (veqD n) a.toList b.toList = true := h; rw [Array.toList_inj.1 (leq_eq ih h)])
    | iface t v => cases y <;> first | (cases h; done) | (rename_i u w; have h : (Bool.rec false (veqD n v w) (Nat.beq t u) : Bool) = true := h; rw [recTrue] at h; rw [beqIff.1 h.1, ih _ _ h.2])
    | func f a c =>
      cases f with
      | func f =>
        cases y <;> try (cases h; done)
        rename_i g b d
        cases g <;> try (cases h; done)
        rename_i g
        have h : (Bool.rec false (Bool.rec false (leq (veqD n) c.toList d.toList) (leq (veqD n) a.toList b.toList)) (Nat.beq f g) : Bool) = true := h
        rw [recTrue, recTrue] at h
        rw [beqIff.1 h.1, Array.toList_inj.1 (leq_eq ih h.2.1), Array.toList_inj.1 (leq_eq ih h.2.2)]
      | _ => exact veq_eq h
    | _ => exact veq_eq h
theorem veq6_eq {x y : Value} (h : veq6 x y = true) : x = y := veqD_eq 6 x y h
theorem mdEq_eq {a b : Md} (h : mdEq a b = true) : a = b := by
  cases a <;> cases b <;> first | rfl | (cases h; done) | (rw [beqIff.1 h])
theorem entEq_eq {a b : MapEntry} (h : entEq a b = true) : a = b := by
  have h : (Bool.rec false (Bool.rec false (Nat.beq a.born b.born) (veq6 a.val b.val)) (veq6 a.key b.key) : Bool) = true := h
  rw [recTrue, recTrue] at h
  obtain ⟨k, v, n⟩ := a; obtain ⟨k', v', n'⟩ := b
  simp only at h
  rw [veq6_eq h.1, veq6_eq h.2.1, beqIff.1 h.2.2]
theorem aoEq_eq {a b : AO} (h : aoEq a b = true) : a = b := by
  cases a with
  | row c e m =>
    cases b <;> try (cases h; done)
    rename_i c' e' m'
    have h : (Bool.rec false (Bool.rec false (leq veq6 c c') (mdEq m m')) (Nat.beq e e') : Bool) = true := h
    rw [recTrue, recTrue] at h
    rw [beqIff.1 h.1, mdEq_eq h.2.1, leq_eq (fun _ _ => veq6_eq) h.2.2]
  | map es k =>
    cases b <;> try (cases h; done)
    rename_i es' k'
    have h : (Bool.rec false (leq entEq es es') (Nat.beq k k') : Bool) = true := h
    rw [recTrue] at h
    rw [beqIff.1 h.1, leq_eq (fun _ _ => entEq_eq) h.2]
  | dead => cases b <;> first | rfl | (cases h; done)
theorem liesB_get {H : T AO} : ∀ {l : List (Nat × AO)}, liesB l H = true → ∀ i o, (i, o) ∈ l → H.get i = some o := by
  intro l
  induction l with
  | nil => intro _ i o h; cases h
  | cons p l ih =>
    intro h i o hm
    have h : (Bool.rec false (liesB l H) (Option.rec false (fun o => aoEq o p.2) (H.get p.1) : Bool) : Bool) = true := h
    rw [recTrue] at h
    rcases List.mem_cons.1 hm with e | hm
    · subst e
      cases hg : H.get i with
      | none => rw [hg] at h; cases h.1
      | some o' => rw [hg] at h; rw [aoEq_eq (show aoEq o' o = true from h.1)]
    · exact ih h.2 i o hm
theorem keyB_iff {i : Nat} : ∀ {l : List (Nat × AO)}, keyB i l = true ↔ ∃ o, (i, o) ∈ l := by
  intro l
  induction l with
  | nil => constructor
           · intro h; cases h
           · rintro ⟨o, h⟩; cases h
  | cons p l ih =>
    show (Bool.rec (keyB i l) true (Nat.beq i p.1) : Bool) = true ↔ _
    cases hb : Nat.beq i p.1 with
    | true => have := beqIff.1 hb; subst this; exact ⟨fun _ => ⟨p.2, by simp⟩, fun _ => rfl⟩
    | false =>
      have hne : i ≠ p.1 := fun e => by rw [beqIff.2 e] at hb; cases hb
      show keyB i l = true ↔ _
      rw [ih]
      constructor
      · rintro ⟨o, h⟩; exact ⟨o, by simp [h]⟩
      · rintro ⟨o, h⟩
        rcases List.mem_cons.1 h with e | h
        · exact absurd (by rw [← e]) hne
        · exact ⟨o, h⟩
theorem putAll_get (i : Nat) : ∀ (l : List (Nat × AO)) (H : T AO), onceB l = true → (∀ o, (i, o) ∈ l → (putAll l H).get i = some o) ∧ (keyB i l = false → (putAll l H).get i = H.get i) := by
  intro l
  induction l with
  | nil => intro H _; exact ⟨fun o h => (by cases h), fun _ => rfl⟩
  | cons p l ih =>
    intro H ho
    have ho : (Bool.rec false (onceB l) (bnot (keyB p.1 l)) : Bool) = true := ho
    rw [recTrue, bnot_eq] at ho
    have hk : keyB p.1 l = false := by simpa using ho.1
    obtain ⟨h1, h2⟩ := ih (H.set p.1 p.2) ho.2
    refine ⟨fun o hm => ?_, fun hn => ?_⟩
    · show (putAll l (H.set p.1 p.2)).get i = some o
      rcases List.mem_cons.1 hm with e | hm
      · subst e; rw [h2 hk, get_set, if_pos rfl]
      · exact h1 o hm
    · show (putAll l (H.set p.1 p.2)).get i = H.get i
      have hn : (Bool.rec (keyB i l) true (Nat.beq i p.1) : Bool) = false := hn
      cases hb : Nat.beq i p.1 with
      | true => rw [hb] at hn; cases hn
      | false =>
        rw [hb] at hn
        rw [h2 hn, get_set, if_neg (fun e => by rw [beqIff.2 e] at hb; cases hb)]
theorem keepB_get {R : List (Nat × AO)} : ∀ {H : List (Nat × AO)}, keepB H R = true → ∀ i o, (i, o) ∈ H → mayW o = true → keyB i R = true := by
  intro H
  induction H with
  | nil => intro _ i o h; cases h
  | cons p H ih =>
    intro h i o hm hw
    have h : (Bool.rec false (keepB H R) (Bool.rec true (keyB p.1 R) (mayWB p.2) : Bool) : Bool) = true := h
    rw [recTrue, impTrue] at h
    rcases List.mem_cons.1 hm with e | hm
    · subst e; exact h.1 (by cases o <;> exact hw)
    · exact ih h.2 i o hm hw
variable {P : Program} [Frozen P]
theorem hook_ok {c0 : Caller} (h0 : CallOK P c0) {h : Hook} (hs : hookShape h = true) (hr : hookRes h (c0 h.f h.args ⟨putAll h.H .e, h.base⟩) = true) : HookOK P (hookCall h) := by
  intro c hc f args A v A' hcall σ w args' hR ha
  unfold hookCall at hcall
  cases hfit : hookFits h f args A with
  | false => rw [hfit] at hcall; exact hc f args A v A' hcall σ w args' hR ha
  | true =>
    rw [hfit] at hcall
    have hcall : some (h.v, (⟨putAll h.R A.heap, h.next⟩ : AW)) = some (v, A') := hcall
    cases hcall
    have hfit : (Bool.rec false (Bool.rec false (Bool.rec false (liesB h.H A.heap) (Nat.ble A.next h.base)) (leq veq6 args h.args)) (Nat.beq f h.f) : Bool) = true := hfit
    rw [recTrue, recTrue, recTrue] at hfit
    obtain ⟨hf, hargs, hbase, hlies⟩ := hfit
    obtain rfl := beqIff.1 hf
    obtain rfl := leq_eq (fun _ _ => veq6_eq) hargs
    have hbase := bleIff.1 hbase
    have hs : (Bool.rec false (Bool.rec false (onceB h.H) (onceB h.R)) (keepB h.H h.R) : Bool) = true := hs
    rw [recTrue, recTrue] at hs
    obtain ⟨hkeep, hR1, hH1⟩ := hs
    cases hev : c0 h.f h.args ⟨putAll h.H .e, h.base⟩ with
    | none => rw [hev] at hr; cases hr
    | some p =>
      obtain ⟨v1, B⟩ := p
      rw [hev] at hr
      have hr : (Bool.rec false (Bool.rec false (liesB h.R B.heap) (Nat.beq B.next h.next)) (veq6 v1 h.v) : Bool) = true := hr
      rw [recTrue, recTrue] at hr
      obtain ⟨hv, hnext, hRB⟩ := hr
      obtain rfl := veq6_eq hv
      have hnext := beqIff.1 hnext
      -- the small memory
      have hget : ∀ i o, (putAll h.H .e).get i = some o → (i, o) ∈ h.H ∧ A.heap.get i = some o := fun i o hg => by
        obtain ⟨k1, k2⟩ := putAll_get i h.H .e hH1
        cases hk : keyB i h.H with
        | false => rw [k2 hk] at hg; cases hg
        | true =>
          obtain ⟨o', ho'⟩ := keyB_iff.1 hk
          rw [k1 o' ho'] at hg; cases hg
          exact ⟨ho', liesB_get hlies i _ ho'⟩
      have hRs : Rel P σ ⟨putAll h.H .e, h.base⟩ w := by
        refine ⟨⟨fun i b d o hi hg hl => hR.obj i b d o hi (hget i o hg).2 hl, fun i j b d d' o o' hi hj hg hg' hl hl' hjk => hR.inj i j b d d' o o' hi hj (hget i o hg).2 (hget j o' hg').2 hl hl' hjk, fun i hi => hR.lim i (Nat.le_trans hbase hi), hR.glob, fun i hi => ?_⟩, fun b x e => ⟨(hR.fro b x e).1, fun hw => (hR.fro b x e).2 (by obtain ⟨k, d, o, h1, h2, h3⟩ := hw; exact ⟨k, d, o, h1, (hget k o h2).2, h3⟩)⟩⟩
        cases hg : (putAll h.H .e).get i with
        | none => rfl
        | some o => have := (hget i o hg).2; rw [hR.top i (Nat.le_trans hbase hi)] at this; cases this
      have hwr : ∀ b, Wr σ ⟨putAll h.H .e, h.base⟩ b → ∃ k d o, σ k = some (b, d) ∧ (k, o) ∈ h.H ∧ A.heap.get k = some o ∧ mayW o = true := by
        rintro b ⟨k, d, o, h1, h2, h3⟩
        exact ⟨k, d, o, h1, (hget k o h2).1, (hget k o h2).2, h3⟩
      have hwrA : ∀ b, Wr σ ⟨putAll h.H .e, h.base⟩ b → Wr σ A b := fun b hb => by
        obtain ⟨k, d, o, h1, _, h3, h4⟩ := hwr b hb; exact ⟨k, d, o, h1, h3, h4⟩
      -- the merged one
      have hm : ∀ i o, (putAll h.R A.heap).get i = some o → ((i, o) ∈ h.R ∧ B.heap.get i = some o) ∨ (keyB i h.R = false ∧ A.heap.get i = some o ∧ i < A.next) := fun i o hg => by
        obtain ⟨k1, k2⟩ := putAll_get i h.R A.heap hR1
        cases hk : keyB i h.R with
        | false =>
          rw [k2 hk] at hg
          refine .inr ⟨rfl, hg, Nat.lt_of_not_le fun hle => ?_⟩
          rw [hR.top i hle] at hg; cases hg
        | true =>
          obtain ⟨o', ho'⟩ := keyB_iff.1 hk
          rw [k1 o' ho'] at hg; cases hg
          exact .inl ⟨ho', liesB_get hRB i _ ho'⟩
      have good : ∀ v' w', Good P σ ⟨putAll h.H .e, h.base⟩ w h.v B v' w' → Good P σ A w h.v ⟨putAll h.R A.heap, h.next⟩ v' w' := by
        rintro v' w' ⟨σ', hv', hR', hS'⟩
        have hext : ∀ i, i < A.next → σ' i = σ i := fun i hi => hS'.ext i (Nat.lt_of_lt_of_le hi hbase)
        have hnb : h.base ≤ h.next := by rw [← hnext]; exact hS'.next
        have hsub := hS'.sub hRs.lim
        -- blocks of what stays
        have hstay : ∀ i b d o, keyB i h.R = false → A.heap.get i = some o → live o = true → σ i = some (b, d) → ¬ Wr σ ⟨putAll h.H .e, h.base⟩ b := fun i b d o hk hg hl hi hw => by
          obtain ⟨k, d', o', h1, h2, h3, h4⟩ := hwr b hw
          obtain rfl := hR.inj i k b d d' o o' hi h1 hg h3 hl (live_of_mayW h4) (by rw [h4, Bool.or_true])
          rw [keepB_get hkeep i o' h2 h4] at hk; cases hk
        have hlt : ∀ i b d o, A.heap.get i = some o → live o = true → σ i = some (b, d) → b < w.heap.size := fun i b d o hg hl hi => by
          obtain ⟨x, hx, _⟩ := hR.obj i b d o hi hg hl
          exact (Array.getElem?_eq_some_iff.1 hx).1
        -- one told of, one that stays
        have hmix : ∀ i j b d d' o o', (i, o) ∈ h.R → B.heap.get i = some o → live o = true → σ' i = some (b, d) → keyB j h.R = false → A.heap.get j = some o' → live o' = true → σ j = some (b, d') → (mayW o || mayW o') = true → i = j := fun i j b d d' o o' _ hgi hli hi hkj hgj hlj hj hjk => by
          have hb := hlt j b d' o' hgj hlj hj
          by_cases hib : i < h.base
          · obtain ⟨o2, ho2, hl2⟩ := hS'.old i o hib hgi hli
            have hi2 : σ i = some (b, d) := by rw [← hS'.ext i hib]; exact hi
            cases hmo : mayW o with
            | true => exact (hstay j b d' o' hkj hgj hlj hj (hS'.wr b hb ⟨i, d, o, hi, hgi, hmo⟩)).elim
            | false =>
              rw [hmo, Bool.false_or] at hjk
              exact hR.inj i j b d d' o2 o' hi2 hj (hget i o2 ho2).2 hgj hl2 hlj (by rw [hjk, Bool.or_true])
          · have hw := hS'.new i b d o (Nat.le_of_not_lt hib) hi hgi hli hb
            exact (hstay j b d' o' hkj hgj hlj hj hw).elim
        refine ⟨σ', hv', hR.both ⟨⟨?_, ?_, ?_, hR'.glob, ?_⟩, ⟨hext, Nat.le_trans hbase hnb, hS'.os, hS'.tape, hS'.output, hS'.size, ?_, ?_, ?_, ?_⟩⟩⟩
        · intro i b d o hi hg hl
          rcases hm i o hg with ⟨_, hgB⟩ | ⟨hk, hgA, hlt'⟩
          · exact hR'.obj i b d o hi hgB hl
          · rw [hext i hlt'] at hi
            obtain ⟨x, hx, hor⟩ := hR.obj i b d o hi hgA hl
            refine ⟨x, ?_, hor.sub hsub⟩
            rw [hS'.block b (hlt i b d o hgA hl hi) (hstay i b d o hk hgA hl hi)]; exact hx
        · intro i j b d d' o o' hi hj hgi hgj hli hlj hjk
          rcases hm i o hgi with ⟨hri, hgiB⟩ | ⟨hki, hgiA, hlti⟩ <;> rcases hm j o' hgj with ⟨hrj, hgjB⟩ | ⟨hkj, hgjA, hltj⟩
          · exact hR'.inj i j b d d' o o' hi hj hgiB hgjB hli hlj hjk
          · rw [hext j hltj] at hj; exact hmix i j b d d' o o' hri hgiB hli hi hkj hgjA hlj hj hjk
          · rw [hext i hlti] at hi; exact (hmix j i b d' d o' o hrj hgjB hlj hj hki hgiA hli hi (by rw [Bool.or_comm]; exact hjk)).symm
          · rw [hext i hlti] at hi; rw [hext j hltj] at hj; exact hR.inj i j b d d' o o' hi hj hgiA hgjA hli hlj hjk
        · intro i hi; exact hR'.lim i (by rw [hnext]; exact hi)
        · intro i hi
          cases hg : (putAll h.R A.heap).get i with
          | none => rfl
          | some o =>
            rcases hm i o hg with ⟨_, hgB⟩ | ⟨_, hgA, hlt'⟩
            · rw [hR'.top i (by rw [hnext]; exact hi)] at hgB; cases hgB
            · have hi : h.next ≤ i := hi; omega
        · intro b hb hw; exact hS'.block b hb fun h' => hw (hwrA b h')
        · rintro b hb ⟨i, d, o, hi, hg, hmw⟩
          rcases hm i o hg with ⟨_, hgB⟩ | ⟨_, hgA, hlt'⟩
          · exact hwrA b (hS'.wr b hb ⟨i, d, o, hi, hgB, hmw⟩)
          · rw [hext i hlt'] at hi; exact ⟨i, d, o, hi, hgA, hmw⟩
        · intro i b d o hi hs' hg hl hb
          rcases hm i o hg with ⟨_, hgB⟩ | ⟨_, _, hlt'⟩
          · by_cases hib : i < h.base
            · rw [hS'.ext i hib, hR.lim i hi] at hs'; cases hs'
            · exact hwrA b (hS'.new i b d o (Nat.le_of_not_lt hib) hs' hgB hl hb)
          · omega
        · intro i o hi hg hl
          rcases hm i o hg with ⟨_, hgB⟩ | ⟨_, hgA, _⟩
          · obtain ⟨o2, ho2, hl2⟩ := hS'.old i o (Nat.lt_of_lt_of_le hi hbase) hgB hl
            exact ⟨o2, (hget i o2 ho2).2, hl2⟩
          · exact ⟨o, hgA, hl⟩
      rcases h0 h.f h.args ⟨putAll h.H .e, h.base⟩ h.v B hev σ w args' hRs ha with ⟨v', w', e, hg⟩ | ⟨g, as_, e, hg⟩
      · exact .inl ⟨v', w', e, good v' w' hg⟩
      · refine .inr ⟨g, as_, e, Calls.mono hg fun en w' he => ?_⟩
        cases en with
        | returned v' => exact good v' w' he
        | _ => exact he.elim
theorem HookOK.comp {h g : Caller → Caller} (hh : HookOK P h) (hg : HookOK P g) : HookOK P fun c => h (g c) := fun c hc => hh _ (hg c hc)
end Go.Ev

/- The evaluator: what a walk is told; the variables that are laid. -/
section
set_option linter.unusedSectionVars false
namespace Go.Ev
open Go.RowKit (Below)
variable {P : Program} [Frozen P]
mutual
def flatD : DataW Unit → Option (List Value)
  | .lit (.int k n) => some [.int k n]
  | .lit (.bool b) => some [.bool b]
  | .lit (.string s) => some [mkStr s]
  | .agg l => flatDs l
  | _ => none
def flatDs : List (DataW Unit) → Option (List Value)
  | [] => some []
  | d :: l => match flatD d, flatDs l with
    | some a, some b => some (a ++ b)
    | _, _ => none
end
def sideB (P : Program) [Frozen P] : List Field → Nat → Nat → Bool
  | [], i, n => Nat.beq i n
  | f :: fs, i, n => Nat.beq f.offset i && sideB P fs (i + P.cellsOf f.type) n
def layB (P : Program) [Frozen P] : Nat → TypeId → Bool
  | 0, _ => true
  | k + 1, t => match P.underlying t with
    | some (.struct fs) => sideB P fs.toList 0 (P.cellsOf t) && fs.toList.all fun f => layB P k f.type
    | some (.array n e) => Nat.beq (n * P.cellsOf e) (P.cellsOf t) && layB P k e
    | _ => true
theorem mapM_some {α β : Type} {f : α → Option β} : ∀ {l : List α} {r : List β}, l.mapM f = some r → (l = [] ∧ r = []) ∨ ∃ x l' y r', l = x :: l' ∧ r = y :: r' ∧ f x = some y ∧ l'.mapM f = some r' := by
  intro l r h
  cases l with
  | nil => simp at h; exact .inl ⟨rfl, h⟩
  | cons x l =>
    rw [List.mapM_cons] at h
    simp only [bind, Option.bind_eq_some_iff, pure, Option.some.injEq] at h
    obtain ⟨y, h1, ys, h2, rfl⟩ := h
    exact .inr ⟨x, l, y, ys, rfl, rfl, h1, h2⟩
theorem fields_flat {w : World} {k : Nat} {cs : List Value} (ih : ∀ t cs d p vs, layB P k t = true → DataW.trod (fun _ => ()) P w 0 (fun _ => true) false k t cs = some (d, p) → flatD d = some vs → cs = vs) :
    ∀ (fs : List Field) (i : Nat) (xs : List (DataW Unit × List MemPlace)) (vs : List Value), sideB P fs i cs.length = true → fs.all (fun f => layB P k f.type) = true → i ≤ cs.length →
      (fs.mapM fun f => DataW.trod (fun _ => ()) P w 0 (fun _ => true) false k f.type ((cs.drop f.offset).take (P.cellsOf f.type))) = some xs → flatDs (xs.map (·.1)) = some vs → cs.drop i = vs := by
  intro fs
  induction fs with
  | nil =>
    intro i xs vs hs _ hi h hv
    have hs : Nat.beq i cs.length = true := hs
    rw [beqIff] at hs
    simp at h
    subst h
    simp [flatDs] at hv
    subst hv
    rw [hs]; simp
  | cons f fs ihf =>
    intro i xs vs hs hall hi h hv
    have hs : (Nat.beq f.offset i && sideB P fs (i + P.cellsOf f.type) cs.length) = true := hs
    rw [andTrue, beqIff] at hs
    obtain ⟨ho, hs⟩ := hs
    simp only [List.all_cons, Bool.and_eq_true] at hall
    rcases mapM_some h with ⟨h1, _⟩ | ⟨x, l', y, r', h1, rfl, hx, hr⟩
    · cases h1
    · cases h1
      simp only [List.map_cons, flatDs] at hv
      obtain ⟨d, p⟩ := y
      cases hd : flatD d with
      | none => rw [hd] at hv; cases hv
      | some a =>
        cases hr2 : flatDs (r'.map (·.1)) with
        | none => rw [hd, hr2] at hv; cases hv
        | some b =>
          rw [hd, hr2] at hv
          cases hv
          have e1 := ih _ _ _ _ _ hall.1 hx hd
          rw [ho] at e1
          have hle : i + P.cellsOf f.type ≤ cs.length := by
            clear ihf h hd hr2 hx hr e1
            rcases Nat.lt_or_ge cs.length (i + P.cellsOf f.type) with hlt | hge
            · exfalso
              have : ∀ (fs : List Field) (j : Nat), cs.length < j → sideB P fs j cs.length = true → False := by
                intro fs
                induction fs with
                | nil => intro j hj hh; have : Nat.beq j cs.length = true := hh; rw [beqIff] at this; omega
                | cons g fs ihg =>
                  intro j hj hh
                  have hh : (Nat.beq g.offset j && sideB P fs (j + P.cellsOf g.type) cs.length) = true := hh
                  rw [andTrue] at hh
                  exact ihg _ (by omega) hh.2
              exact this fs _ hlt hs
            · exact hge
          have e2 := ihf (i + P.cellsOf f.type) r' b hs hall.2 hle hr hr2
          rw [← e1, ← e2, ← List.drop_drop, List.take_append_drop]
theorem elems_flat {w : World} {k : Nat} {e : TypeId} {cs : List Value} (ih : ∀ t cs d p vs, layB P k t = true → DataW.trod (fun _ => ()) P w 0 (fun _ => true) false k t cs = some (d, p) → flatD d = some vs → cs = vs) (hl : layB P k e = true) :
    ∀ (n j : Nat) (xs : List (DataW Unit × List MemPlace)) (vs : List Value), (j + n) * P.cellsOf e = cs.length →
      ((List.range' j n).mapM fun i => DataW.trod (fun _ => ()) P w 0 (fun _ => true) false k e ((cs.drop (i * P.cellsOf e)).take (P.cellsOf e))) = some xs → flatDs (xs.map (·.1)) = some vs → cs.drop (j * P.cellsOf e) = vs := by
  intro n
  induction n with
  | zero =>
    intro j xs vs hn h hv
    simp at h; subst h
    simp [flatDs] at hv; subst hv
    rw [Nat.add_zero] at hn; rw [hn]; simp
  | succ n ihn =>
    intro j xs vs hn h hv
    rw [List.range'_succ] at h
    rcases mapM_some h with ⟨h1, _⟩ | ⟨x, l', y, r', h1, rfl, hx, hr⟩
    · cases h1
    · cases h1
      simp only [List.map_cons, flatDs] at hv
      obtain ⟨d, p⟩ := y
      cases hd : flatD d with
      | none => rw [hd] at hv; cases hv
      | some a =>
        cases hr2 : flatDs (r'.map (·.1)) with
        | none => rw [hd, hr2] at hv; cases hv
        | some b =>
          rw [hd, hr2] at hv
          cases hv
          have e1 := ih _ _ _ _ _ hl hx hd
          have e2 := ihn (j + 1) r' b (by rw [← hn]; congr 1; omega) hr hr2
          rw [Nat.succ_mul] at e2
          rw [← e1, ← e2, ← List.drop_drop, List.take_append_drop]
theorem trod_flat {w : World} : ∀ (k : Nat) (t : TypeId) (cs : List Value) (d : DataW Unit) (p : List MemPlace) (vs : List Value), layB P k t = true → DataW.trod (fun _ => ()) P w 0 (fun _ => true) false k t cs = some (d, p) → flatD d = some vs → cs = vs := by
  intro k
  induction k with
  | zero => intro t cs d p vs _ h; simp [DataW.trod] at h
  | succ k ih =>
    intro t cs d p vs hl h hv
    unfold DataW.trod at h
    split at h
    · simp only [Option.some.injEq, Prod.mk.injEq] at h; obtain ⟨rfl, _⟩ := h; simp [flatD] at hv; exact hv
    · split at h
      · rename_i hk; simp only [Option.some.injEq, Prod.mk.injEq] at h; obtain ⟨rfl, _⟩ := h; simp [flatD] at hv; rw [← hv, hk.1]
      · cases h
    · split at h
      · simp only [Option.some.injEq, Prod.mk.injEq] at h; obtain ⟨rfl, _⟩ := h; simp [flatD] at hv
      · cases h
    · split at h
      · simp only [Option.some.injEq, Prod.mk.injEq] at h; obtain ⟨rfl, _⟩ := h; simp [flatD] at hv; rw [← hv]; rfl
      · cases h
    · simp only [Option.some.injEq, Prod.mk.injEq] at h; obtain ⟨rfl, _⟩ := h; simp [flatD] at hv
    · simp only [Option.map_eq_some_iff, Prod.mk.injEq] at h; obtain ⟨_, _, rfl, _⟩ := h; simp [flatD] at hv
    · simp only [Option.some.injEq, Prod.mk.injEq] at h; obtain ⟨rfl, _⟩ := h; simp [flatD] at hv
    · simp only at h
      split at h
      · simp only [Option.bind_eq_some_iff, Option.map_eq_some_iff, Prod.mk.injEq] at h
        obtain ⟨_, _, _, _, rfl, _⟩ := h; simp [flatD] at hv
      · cases h
    · rename_i fs hu
      split at h
      · rename_i hlen
        simp only [Option.map_eq_some_iff, Prod.mk.injEq] at h
        obtain ⟨xs, hx, rfl, _⟩ := h
        simp only [flatD] at hv
        simp only [layB, hu] at hl
        rw [andTrue] at hl
        have := fields_flat ih fs.toList 0 xs vs (by rw [hlen]; exact hl.1) hl.2 (Nat.zero_le _) hx hv
        simpa using this
      · cases h
    · rename_i n e hu
      split at h
      · rename_i hlen
        simp only [Option.map_eq_some_iff, Prod.mk.injEq] at h
        obtain ⟨xs, hx, rfl, _⟩ := h
        simp only [flatD] at hv
        simp only [layB, hu] at hl
        rw [andTrue, beqIff] at hl
        have := elems_flat ih hl.2 n 0 xs vs (by rw [Nat.zero_add, hlen]; exact hl.1) (by rw [← List.range_eq_range']; exact hx) hv
        simpa using this
      · cases h
    · simp only [Option.some.injEq, Prod.mk.injEq] at h; obtain ⟨rfl, _⟩ := h; simp [flatD] at hv
    · split at h
      · simp only [Option.some.injEq, Prod.mk.injEq] at h; obtain ⟨rfl, _⟩ := h; simp [flatD] at hv
      · simp only [Option.map_eq_some_iff, Prod.mk.injEq] at h; obtain ⟨_, _, rfl, _⟩ := h; simp [flatD] at hv
      · cases h
    · simp only [Option.some.injEq, Prod.mk.injEq] at h; obtain ⟨rfl, _⟩ := h; simp [flatD] at hv
    · split at h
      · split at h
        · simp only [Option.bind_eq_some_iff] at h
          obtain ⟨_, _, h⟩ := h
          split at h
          · simp only [Option.some.injEq, Prod.mk.injEq] at h; obtain ⟨rfl, _⟩ := h; simp [flatD] at hv
          · cases h
        · cases h
      · cases h
    all_goals first
      | (cases h; done)
      | (simp only [Option.some.injEq, Prod.mk.injEq] at h; obtain ⟨rfl, _⟩ := h; simp [flatD] at hv; done)
      | (split at h <;> first | (cases h; done) | (simp only [Option.some.injEq, Prod.mk.injEq] at h; obtain ⟨rfl, _⟩ := h; simp [flatD] at hv; done))
def LaidIn (G : List (Nat × AO)) (w : World) : Prop := ∀ g c e m, (g, AO.row c e m) ∈ G → ∃ e' fz, w.heap[g]? = some (.cells ⟨c⟩ e' fz)
theorem LaidIn.below {G : List (Nat × AO)} {w w' : World} (h : LaidIn G w) (hb : Below w.heap.size w w') : LaidIn G w' := fun g c e m hm => by
  obtain ⟨e', fz, hw⟩ := h g c e m hm
  exact ⟨e', fz, (hb.block g (Array.getElem?_eq_some_iff.1 hw).1).trans hw⟩
theorem laidVars_get {w : World} : ∀ {l : List (String × DataW Unit)} {ps : List MemPlace}, DataW.LaidVars P w l ps → ∀ n d, (n, d) ∈ l → ∀ g t vs, P.globalNamed n = some g → (P.globals[g]?).map (·.type) = some t → (∀ k, layB P k t = true) → flatD d = some vs →
    ∃ e' fz, w.heap[g]? = some (.cells ⟨vs⟩ e' fz) := by
  intro l
  induction l with
  | nil => intro ps _ n d h; cases h
  | cons x l ih =>
    intro ps h n d hm g t vs hg ht hl hv
    obtain ⟨n0, d0⟩ := x
    obtain ⟨g0, t0, cs, fuel, p, q, h1, h2, h3, h4, h5, _⟩ := h
    rcases List.mem_cons.1 hm with e | hm
    · cases e
      rw [hg] at h1; cases h1
      rw [ht] at h2; cases h2
      have := trod_flat fuel t cs.toList d p vs (hl fuel) h4 hv
      unfold World.var? at h3
      rw [hg] at h3
      simp only [Option.bind_some] at h3
      split at h3
      · rename_i cs' e' fz hw
        cases h3
        refine ⟨e', fz, ?_⟩
        rw [hw, ← this]
      · cases h3
    · exact ih h5 n d hm g t vs hg ht hl hv
noncomputable def roO (o : AO) : Bool := match o with
  | .row c _ .ro => flats c
  | _ => false
theorem roO_some {o : AO} (h : roO o = true) : ∃ c e, o = .row c e .ro ∧ flats c = true := by
  unfold roO at h
  split at h
  · exact ⟨_, _, rfl, h⟩
  · cases h
noncomputable def roB (ng : Nat) (l : List (Nat × AO)) : Bool := l.all fun p => Nat.blt p.1 ng && roO p.2
theorem Rel.laid {G : List (Nat × AO)} {ng : Nat} {w : World} (hng : P.globals.size = ng) (hro : roB ng G = true) (ho : onceB G = true) (hw : LaidIn G w) (hfro : ∀ b x, Frozen.F P b = some x → w.heap[b]? = some x) : Rel P (fun i => if i < ng then some (i, 0) else none) ⟨putAll G .e, ng⟩ w := by
  have hget : ∀ i o, (putAll G .e).get i = some o → (i, o) ∈ G := fun i o hg => by
    obtain ⟨k1, k2⟩ := putAll_get i G .e ho
    cases hk : keyB i G with
    | false => rw [k2 hk] at hg; cases hg
    | true =>
      obtain ⟨o', ho'⟩ := keyB_iff.1 hk
      rw [k1 o' ho'] at hg; cases hg
      exact ho'
  have hall : ∀ i o, (i, o) ∈ G → i < ng ∧ ∃ c e, o = .row c e .ro ∧ flats c = true := fun i o hm => by
    have := List.all_eq_true.1 hro (i, o) hm
    simp only [Bool.and_eq_true, blt_iff] at this
    exact ⟨this.1, roO_some this.2⟩
  refine ⟨⟨?_, ?_, ?_, ?_, ?_⟩, fun b x e => ⟨hfro b x e, ?_⟩⟩
  case' refine_6 =>
    rintro ⟨i, d, o, _, hg, hm⟩
    obtain ⟨_, c, e, rfl, _⟩ := hall i o (hget i o hg)
    cases hm
  · intro i b d o hi hg _
    obtain ⟨hlt, c, e, rfl, hf⟩ := hall i o (hget i o hg)
    rw [if_pos hlt] at hi; cases hi
    obtain ⟨e', fz, hx⟩ := hw i c e .ro (hget i _ hg)
    exact ⟨_, hx, .inl rfl, ⟨⟨c, [], by simp, .refl_flats hf, fun _ => rfl⟩, fun _ => rfl, fun _ h => (by cases h), fun h => (by cases h)⟩⟩
  · intro i j b d d' o o' hi hj _ _ _ _ _
    split at hi <;> split at hj <;> simp_all
  · intro i hi; exact if_neg (by show ¬ i < ng; have : ng ≤ i := hi; omega)
  · intro g hg; exact if_pos (by omega)
  · intro i hi
    cases hg : (putAll G .e).get i with
    | none => rfl
    | some o => have := (hall i o (hget i o hg)).1; have hi : ng ≤ i := hi; omega
noncomputable def flat3 (v : Value) : Bool := match v with
  | .tuple c => c.toList.all flat2
  | v => flat2 v
theorem VRL.of_flat2s {σ : Sg} : ∀ {l l' : List Value}, VRL σ l l' → l.all flat2 = true → l' = l
  | _, _, .nil, _ => rfl
  | _, _, .cons a b, h => by
    simp only [List.all_cons, Bool.and_eq_true] at h
    rw [a.of_flat2 h.1, VRL.of_flat2s b h.2]
theorem VRL.refl_flat2s {σ : Sg} : ∀ {l : List Value}, l.all flat2 = true → VRL σ l l
  | [], _ => .nil
  | v :: l, h => by
    simp only [List.all_cons, Bool.and_eq_true] at h
    exact .cons (.refl_flat2 h.1) (VRL.refl_flat2s h.2)
theorem VR.of_flat3 {σ : Sg} {v v' : Value} (h : VR σ v v') (hf : flat3 v = true) : v' = v := by
  cases v with
  | tuple c =>
    obtain ⟨c⟩ := c
    obtain ⟨c', hc, rfl⟩ := h.tuple_inv
    rw [VRL.of_flat2s hc hf]
  | _ => exact h.of_flat2 hf
noncomputable def resIs (v : Value) (x : Option (Value × AW)) : Bool := Option.rec false (fun p => veq6 p.1 v) x
def layC (P : Program) [Frozen P] : Nat → TypeId → Bool
  | 0, _ => false
  | k + 1, t => match P.underlying t with
    | some (.struct fs) => sideB P fs.toList 0 (P.cellsOf t) && fs.toList.all fun f => layC P k f.type
    | some (.array n e) => Nat.beq (n * P.cellsOf e) (P.cellsOf t) && layC P k e
    | _ => true
theorem layC_layB : ∀ (c : Nat) (t : TypeId), layC P c t = true → ∀ k, layB P k t = true := by
  intro c
  induction c with
  | zero => intro t h; cases h
  | succ c ih =>
    intro t h k
    cases k with
    | zero => rfl
    | succ k =>
      unfold layC at h
      unfold layB
      split at h
      · rename_i fs hu
        rw [andTrue] at h
        rw [andTrue]
        refine ⟨h.1, List.all_eq_true.2 fun f hf => ih f.type (List.all_eq_true.1 h.2 f hf) k⟩
      · rename_i n e hu
        rw [andTrue] at h
        rw [andTrue]
        exact ⟨h.1, ih e h.2 k⟩
      · rfl
def findD (n : String) : List (String × DataW Unit) → Option (DataW Unit)
  | [] => none
  | x :: l => if x.1 == n then some x.2 else findD n l
theorem findD_mem {n : String} {d : DataW Unit} : ∀ {l : List (String × DataW Unit)}, findD n l = some d → (n, d) ∈ l := by
  intro l
  induction l with
  | nil => intro h; cases h
  | cons x l ih =>
    intro h
    unfold findD at h
    split at h
    · rename_i e; cases h; obtain ⟨a, b⟩ := x; simp at e; subst e; simp
    · exact List.mem_cons_of_mem _ (ih h)
noncomputable def varB (P : Program) [Frozen P] (l : List (String × DataW Unit)) (n : String) (p : Nat × AO) : Bool := match p.2, findD n l with
  | .row c _ _, some d => match P.globalNamed n, (P.globals[p.1]?).map (·.type), flatD d with
    | some g, some t, some vs => Nat.beq g p.1 && (layC P 8 t && leq veq6 vs c)
    | _, _, _ => false
  | _, _ => false
noncomputable def varsB (P : Program) [Frozen P] (l : List (String × DataW Unit)) : List String → List (Nat × AO) → Bool
  | [], [] => true
  | n :: ns, p :: ps => varB P l n p && varsB P l ns ps
  | _, _ => false
theorem laidIn_of {l : List (String × DataW Unit)} {w : World} (h : laidMet P l w) : ∀ {ns : List String} {G : List (Nat × AO)}, varsB P l ns G = true → LaidIn G w := by
  intro ns
  induction ns with
  | nil =>
    intro G hv
    cases G with
    | nil => intro g c e m hm; cases hm
    | cons p ps => cases hv
  | cons n ns ih =>
    intro G hv
    cases G with
    | nil => cases hv
    | cons p ps =>
      have hv : (varB P l n p && varsB P l ns ps) = true := hv
      rw [andTrue] at hv
      intro g c e m hm
      rcases List.mem_cons.1 hm with e1 | hm
      · subst e1
        have h1 := hv.1
        unfold varB at h1
        cases hd : findD n l with
        | none => rw [hd] at h1; cases h1
        | some d =>
          rw [hd] at h1
          simp only at h1
          split at h1
          · rename_i g' t vs hg ht hf
            rw [andTrue, andTrue, beqIff] at h1
            obtain ⟨rfl, hl, hq⟩ := h1
            obtain rfl := leq_eq (fun _ _ => veq6_eq) hq
            obtain ⟨ps', hL, _, _⟩ := h
            exact laidVars_get hL n d (findD_mem hd) _ t vs hg ht (layC_layB 8 t hl) hf
          · cases h1
      · exact ih hv.2 g c e m hm
end Go.Ev
end

/- The evaluator with variables: quiet operations whose operands are told by variables. -/
set_option linter.unusedSectionVars false
namespace Go.Ev
variable {P : Program} {σ : Sg} {w : World} [Frozen P]
noncomputable section
def isSym : Value → Bool
  | .iface t _ => bnot (Nat.blt t SYM)
  | _ => false
def uval : Value → Value
  | .iface t v => Bool.rec (Bool.rec (.iface t v) (match v with
      | .agg ⟨[_, s]⟩ => s
      | _ => .iface t v) (Nat.beq t MN)) v (Nat.beq t SYM)
  | v => v
def tg (v : Value) : Value := .iface SYM v
abbrev tgI (k : IntKind) (z : Int) : Value := .iface SYM (.int k z)
def cpo {α : Type} (x : Option α) (f : α → Prop) : Prop := Option.rec False f x
def cpb (b : Bool) (p : Prop) : Prop := Bool.rec False p b
def sInt (j : IntKind) (x : Int) (K : Value → Prop) : Prop := ∀ z : Int, z = j.wrap x → K (tgI j z)
def sSet (j : IntKind) (x : Int) (K : Value → Prop) : Prop := ∀ z : Int, z = x → K (tgI j z)
def sIf (p : Prop) (K : Value → Prop) : Prop := (p → K (.bool true)) ∧ (¬ p → K (.bool false))
def bitsOf (op : BinOp) (j : IntKind) (m n : Int) : Int := match op with
  | .and => ((BitVec.ofInt j.bits m &&& BitVec.ofInt j.bits n).toNat : Int)
  | .or => ((BitVec.ofInt j.bits m ||| BitVec.ofInt j.bits n).toNat : Int)
  | .xor => ((BitVec.ofInt j.bits m ^^^ BitVec.ofInt j.bits n).toNat : Int)
  | _ => ((BitVec.ofInt j.bits m &&& ~~~ BitVec.ofInt j.bits n).toNat : Int)
def symInt (op : BinOp) (j : IntKind) (m n : Int) (K : Value → Prop) : Prop := match op with
  | .add => sInt j (m + n) K
  | .sub => sInt j (m - n) K
  | .mul => sInt j (m * n) K
  | .quo => n ≠ 0 ∧ sInt j (m.tdiv n) K
  | .rem => n ≠ 0 ∧ sSet j (m.tmod n) K
  | .and => sInt j (bitsOf .and j m n) K
  | .or => sInt j (bitsOf .or j m n) K
  | .xor => sInt j (bitsOf .xor j m n) K
  | .andNot => sInt j (bitsOf .andNot j m n) K
  | .shl => 0 ≤ n ∧ sInt j (m * 2 ^ (min n.toNat j.bits)) K
  | .shr => 0 ≤ n ∧ sSet j (m.fdiv (2 ^ (min n.toNat j.bits))) K
  | .eql => sIf (m = n) K
  | .neq => sIf (m ≠ n) K
  | .lss => sIf (m < n) K
  | .leq => sIf (m ≤ n) K
  | .gtr => sIf (n < m) K
  | .geq => sIf (n ≤ m) K
def symBool (op : BinOp) (a b : Bool) (K : Value → Prop) : Prop := match op with
  | .eql => sIf (a = b) K
  | .neq => sIf (a ≠ b) K
  | _ => False
def symStr (op : BinOp) (a b : ByteArray) (K : Value → Prop) : Prop := match op with
  | .eql => sIf (a.data.toList = b.data.toList) K
  | .neq => sIf (a.data.toList ≠ b.data.toList) K
  | .add => a.data.toList.length + b.data.toList.length ≤ 1099511627776 ∧ ∀ s, s = a.data.toList ++ b.data.toList → K (tg (mkStr s))
  | _ => False
def symBin (P : Program) [Frozen P] (op : BinOp) (t : TypeId) (a b : Value) (K : Value → Prop) : Prop := match a with
  | .int j m => match b with
    | .int k n => cpb (Bool.rec (sameK j k) true (isShift op)) (symInt op j m n K)
    | _ => False
  | .bool p => match b with
    | .bool q => cpo (P.underlying t) fun d => cpb (boolD d) (symBool op p q K)
    | _ => False
  | .string s => match b with
    | .string u => symStr op s u K
    | _ => False
  | _ => False
def ibs : Value → Bool
  | .int _ _ | .bool _ | .string _ => true
  | _ => false
def BinSem (P : Program) [Frozen P] (op : BinOp) (t : TypeId) (xo yo : Operand) (a b v : Value) : Prop := ∀ (σ : Sg) (w : World), ∃ u, VR σ v u ∧ (do eqGuard op t xo yo a b; binOp op t a b).run P w = .ok u w
theorem cpo_iff {α : Type} {x : Option α} {f : α → Prop} : cpo x f ↔ ∃ y, x = some y ∧ f y := by cases x <;> simp [cpo]
theorem cpb_iff {b : Bool} {p : Prop} : cpb b p ↔ b = true ∧ p := by cases b <;> simp [cpb]
theorem tgI_vr (k : IntKind) (z : Int) : VR σ (tgI k z) (.int k z) := .sym rfl (.flat rfl)
theorem int_guard {op : BinOp} {t : TypeId} {xo yo : Operand} {j k : IntKind} {m n : Int} {u : Value} {w : World} (h : (binOp op t (.int j m) (.int k n)).run P w = .ok u w) :
    (do eqGuard op t xo yo (.int j m) (.int k n); binOp op t (.int j m) (.int k n)).run P w = .ok u w := by
  simp [eqGuard_plain (a := .int j m) (by simp) (by simp), h]
theorem symInt_sound {op : BinOp} {t : TypeId} {j k : IntKind} {m n : Int} {K : Value → Prop} (hk : isShift op = true ∨ j = k) (h : symInt op j m n K) :
    ∃ v u, K v ∧ (∀ σ, VR σ v u) ∧ ∀ w, (binOp op t (.int j m) (.int k n)).run P w = .ok u w := by
  have hcmp : ∀ {p : Prop} [Decidable p], sIf p K → ∃ v, K v ∧ v = .bool (decide p) := fun {p} _ h => by
    by_cases hp : p
    · exact ⟨_, h.1 hp, by simp [hp]⟩
    · exact ⟨_, h.2 hp, by simp [hp]⟩
  have hI : ∀ (x : Int), sInt j x K → ∃ v u, K v ∧ (∀ σ, VR σ v u) ∧ u = .int j (j.wrap x) := fun x h => ⟨_, _, h _ rfl, fun σ => tgI_vr _ _, rfl⟩
  have hS : ∀ (x : Int), sSet j x K → ∃ v u, K v ∧ (∀ σ, VR σ v u) ∧ u = .int j x := fun x h => ⟨_, _, h _ rfl, fun σ => tgI_vr _ _, rfl⟩
  have same : isShift op = false → j = k := fun e => hk.resolve_left (by rw [e]; simp)
  cases op with
  | add => obtain rfl := same rfl; obtain ⟨v, u, h1, h2, rfl⟩ := hI _ h; exact ⟨v, _, h1, h2, fun w => by rw [binOp_int rfl]; rfl⟩
  | sub => obtain rfl := same rfl; obtain ⟨v, u, h1, h2, rfl⟩ := hI _ h; exact ⟨v, _, h1, h2, fun w => by rw [binOp_int rfl]; rfl⟩
  | mul => obtain rfl := same rfl; obtain ⟨v, u, h1, h2, rfl⟩ := hI _ h; exact ⟨v, _, h1, h2, fun w => by rw [binOp_int rfl]; rfl⟩
  | quo => obtain rfl := same rfl; obtain ⟨v, u, h1, h2, rfl⟩ := hI _ h.2; exact ⟨v, _, h1, h2, fun w => by rw [binOp_int rfl]; simp only [Op.intDiv]; rw [if_neg h.1]; rfl⟩
  | rem => obtain rfl := same rfl; obtain ⟨v, u, h1, h2, rfl⟩ := hS _ h.2; exact ⟨v, _, h1, h2, fun w => by rw [binOp_int rfl]; simp only [Op.intDiv]; rw [if_neg h.1]; rfl⟩
  | and => obtain rfl := same rfl; obtain ⟨v, u, h1, h2, rfl⟩ := hI _ h; exact ⟨v, _, h1, h2, fun w => by rw [binOp_int rfl]; rfl⟩
  | or => obtain rfl := same rfl; obtain ⟨v, u, h1, h2, rfl⟩ := hI _ h; exact ⟨v, _, h1, h2, fun w => by rw [binOp_int rfl]; rfl⟩
  | xor => obtain rfl := same rfl; obtain ⟨v, u, h1, h2, rfl⟩ := hI _ h; exact ⟨v, _, h1, h2, fun w => by rw [binOp_int rfl]; rfl⟩
  | andNot => obtain rfl := same rfl; obtain ⟨v, u, h1, h2, rfl⟩ := hI _ h; exact ⟨v, _, h1, h2, fun w => by rw [binOp_int rfl]; rfl⟩
  | shl =>
    obtain ⟨v, u, h1, h2, rfl⟩ := hI _ h.2
    refine ⟨v, _, h1, h2, fun w => ?_⟩
    have h3 := h.1
    simp only [binOp, Op.shift]
    rw [if_neg (by omega)]; rfl
  | shr =>
    obtain ⟨v, u, h1, h2, rfl⟩ := hS _ h.2
    refine ⟨v, _, h1, h2, fun w => ?_⟩
    have h3 := h.1
    simp only [binOp, Op.shift]
    rw [if_neg (by omega)]; rfl
  | eql => obtain rfl := same rfl; obtain ⟨v, h1, rfl⟩ := hcmp h; exact ⟨_, _, h1, fun σ => .flat rfl, fun w => by rw [binOp_int rfl]; simp only [Op.intCmp, Sem.run_pure]; congr 2⟩
  | neq => obtain rfl := same rfl; obtain ⟨v, h1, rfl⟩ := hcmp h; exact ⟨_, _, h1, fun σ => .flat rfl, fun w => by rw [binOp_int rfl]; simp only [Op.intCmp, Sem.run_pure]; congr 2; rw [Bool.eq_iff_iff]; simp⟩
  | lss => obtain rfl := same rfl; obtain ⟨v, h1, rfl⟩ := hcmp h; exact ⟨_, _, h1, fun σ => .flat rfl, fun w => by rw [binOp_int rfl]; rfl⟩
  | leq => obtain rfl := same rfl; obtain ⟨v, h1, rfl⟩ := hcmp h; exact ⟨_, _, h1, fun σ => .flat rfl, fun w => by rw [binOp_int rfl]; rfl⟩
  | gtr => obtain rfl := same rfl; obtain ⟨v, h1, rfl⟩ := hcmp h; exact ⟨_, _, h1, fun σ => .flat rfl, fun w => by rw [binOp_int rfl]; rfl⟩
  | geq => obtain rfl := same rfl; obtain ⟨v, h1, rfl⟩ := hcmp h; exact ⟨_, _, h1, fun σ => .flat rfl, fun w => by rw [binOp_int rfl]; rfl⟩
theorem symBin_sound {op : BinOp} {t : TypeId} {xo yo : Operand} {a b : Value} {K : Value → Prop} (h : symBin P op t a b K) : ∃ v, K v ∧ BinSem P op t xo yo a b v ∧ ibs a = true ∧ ibs b = true := by
  unfold symBin at h
  split at h
  · split at h
    · rw [cpb_iff] at h
      obtain ⟨hk, h⟩ := h
      rename_i j m _ k n
      have hk' : isShift op = true ∨ j = k := by
        cases hs : isShift op with
        | true => exact .inl rfl
        | false => rw [hs] at hk; exact .inr (sameK_eq hk)
      obtain ⟨v, u, h1, h2, h3⟩ := symInt_sound (P := P) (t := t) hk' h
      exact ⟨v, h1, fun σ w => ⟨u, h2 σ, int_guard (h3 w)⟩, rfl, rfl⟩
    · exact h.elim
  · split at h
    · rename_i p _ q
      rw [cpo_iff] at h
      obtain ⟨d, hd, h⟩ := h
      rw [cpb_iff] at h
      obtain ⟨hb, h⟩ := h
      have hdb : d = .bool := by cases d <;> first | rfl | (cases hb)
      subst hdb
      have he : ∀ w, (Op.equal t (.bool p) (.bool q)).run P w = .ok (p == q) w := fun w => by obtain ⟨N, hN⟩ := equal_eq; rw [hN]; simp [Op.equalIn, run_under hd]
      have hg : ∀ (op : BinOp) (w : World), (eqGuard op t xo yo (.bool p) (.bool q)).run P w = .ok () w := fun op w => eqGuard_plain (by simp) (by simp) w
      cases op with
      | eql =>
        refine ⟨.bool (p == q), ?_, fun σ w => ⟨_, .flat rfl, by simp [hg, (binOp_eql (P := P) (t := t) (x := .bool p) (y := .bool q) rfl _ w (he w)).1]⟩, rfl, rfl⟩
        cases p <;> cases q <;> first | exact h.1 rfl | exact h.2 (by decide)
      | neq =>
        refine ⟨.bool !(p == q), ?_, fun σ w => ⟨_, .flat rfl, by simp [hg, (binOp_eql (P := P) (t := t) (x := .bool p) (y := .bool q) rfl _ w (he w)).2]⟩, rfl, rfl⟩
        cases p <;> cases q <;> first | exact h.1 (by decide) | exact h.2 (by decide)
      | _ => exact h.elim
    · exact h.elim
  · split at h
    · rename_i s _ u
      have hs : s.toList = s.data.toList := ByteArray.toList_eq s
      have hu : u.toList = u.data.toList := ByteArray.toList_eq u
      have hg : ∀ (op : BinOp) (w : World), (eqGuard op t xo yo (.string s) (.string u)).run P w = .ok () w := fun op w => eqGuard_plain (by simp) (by simp) w
      cases op with
      | eql =>
        by_cases hp : s.data.toList = u.data.toList
        · exact ⟨_, h.1 hp, fun σ w => ⟨_, .flat rfl, by simp [hg, binOp, Op.stringOp, hs, hu, hp]⟩, rfl, rfl⟩
        · have hp' : ¬ s.data = u.data := fun e => hp (by rw [e])
          exact ⟨_, h.2 hp, fun σ w => ⟨_, .flat rfl, by simp [hg, binOp, Op.stringOp, hs, hu, hp']⟩, rfl, rfl⟩
      | neq =>
        by_cases hp : s.data.toList = u.data.toList
        · exact ⟨_, h.2 (fun e => e hp), fun σ w => ⟨_, .flat rfl, by simp [hg, binOp, Op.stringOp, hs, hu, hp]⟩, rfl, rfl⟩
        · have hp' : ¬ s.data = u.data := fun e => hp (by rw [e])
          exact ⟨_, h.1 hp, fun σ w => ⟨_, .flat rfl, by simp [hg, binOp, Op.stringOp, hs, hu, hp']⟩, rfl, rfl⟩
      | add =>
        refine ⟨_, h.2 _ rfl, fun σ w => ⟨mkStr (s.data.toList ++ u.data.toList), .sym rfl (.flat rfl), ?_⟩, rfl, rfl⟩
        have := strOp_run (P := P) (op := .add) (t := t) (a := s) (b := u) (v := mkStr (s.data.toList ++ u.data.toList)) (by unfold strOp; simp only; rw [bt_some]; exact ⟨bleIff.2 h.1, rfl⟩) w
        simp [hg, this.2]
      | _ => exact h.elim
    · exact h.elim
  · exact h.elim
end
end Go.Ev
