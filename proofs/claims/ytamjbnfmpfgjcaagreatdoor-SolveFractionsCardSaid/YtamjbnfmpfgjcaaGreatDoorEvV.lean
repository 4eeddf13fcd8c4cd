/- The evaluator: calls that are told of: a call over a small memory is one over a greater one. -/
import Derived.Test.YtamjbnfmpfgjcaaGreatDoorEvU
namespace Go.Ev
noncomputable section
/-- Values that are one, in depth. -/
def leq {α : Type} (f : α → α → Bool) (l : List α) : List α → Bool := List.rec (motive := fun _ => List α → Bool) (fun m => List.rec true (fun _ _ _ => false) m)
  (fun a _ ih m => List.rec false (fun b m _ => Bool.rec false (ih m) (f a b)) m) l
def veqD (n : Nat) : Value → Value → Bool := Nat.rec (motive := fun _ => Value → Value → Bool) veq (fun _ ih x y => match x with
  | .agg a => match y with
    | .agg b => leq ih a.toList b.toList
    | _ => false
  | .tuple a => match y with
    | .tuple b => leq ih a.toList b.toList
    | _ => false
  | .func (.func f) a c => match y with
    | .func (.func g) b d => Bool.rec false (Bool.rec false (leq ih c.toList d.toList) (leq ih a.toList b.toList)) (Nat.beq f g)
    | _ => false
  | .iface t v => match y with
    | .iface u w => Bool.rec false (ih v w) (Nat.beq t u)
    | _ => false
  | x => veq x y) n
def veq6 : Value → Value → Bool := veqD 6
def mdEq (a b : Md) : Bool := match a with
  | .own => match b with
    | .own => true
    | _ => false
  | .ro => match b with
    | .ro => true
    | _ => false
  | .grown m => match b with
    | .grown n => Nat.beq m n
    | _ => false
  | .gro => match b with
    | .gro => true
    | _ => false
def entEq (a b : MapEntry) : Bool := Bool.rec false (Bool.rec false (Nat.beq a.born b.born) (veq6 a.val b.val)) (veq6 a.key b.key)
def aoEq (a b : AO) : Bool := match a with
  | .row c e m => match b with
    | .row c' e' m' => Bool.rec false (Bool.rec false (leq veq6 c c') (mdEq m m')) (Nat.beq e e')
    | _ => false
  | .map es k => match b with
    | .map es' k' => Bool.rec false (leq entEq es es') (Nat.beq k k')
    | _ => false
  | .dead => match b with
    | .dead => true
    | _ => false
/-- A call that is told of: at these arguments, where these objects lie, with places from 'base' on, it gives this value; these objects lie there then. -/
structure Hook where
  f : FuncId
  args : List Value
  H : List (Nat × AO)
  base : Nat
  v : Value
  R : List (Nat × AO)
  next : Nat
def putAll (l : List (Nat × AO)) : T AO → T AO := List.rec (motive := fun _ => T AO → T AO) (fun H => H) (fun p _ ih H => ih (H.set p.1 p.2)) l
/-- Do these objects lie there? -/
def liesB (l : List (Nat × AO)) (H : T AO) : Bool := List.rec true (fun p _ ih => Bool.rec false ih (Option.rec false (fun o => aoEq o p.2) (H.get p.1))) l
def keyB (i : Nat) (l : List (Nat × AO)) : Bool := List.rec false (fun p _ ih => Bool.rec ih true (Nat.beq i p.1)) l
/-- What may be written is told of behind the call. -/
def mayWB (o : AO) : Bool := match o with
  | .row _ _ m => m.writes
  | .map _ _ => true
  | .dead => false
def keepB (H R : List (Nat × AO)) : Bool := List.rec true (fun p _ ih => Bool.rec false ih (Bool.rec true (keyB p.1 R) (mayWB p.2))) H
def hookRes (h : Hook) (x : Option (Value × AW)) : Bool := Option.rec false (fun p => Bool.rec false (Bool.rec false (liesB h.R p.2.heap) (Nat.beq p.2.next h.next)) (veq6 p.1 h.v)) x
def hookFits (h : Hook) (f : FuncId) (args : List Value) (A : AW) : Bool := Bool.rec false (Bool.rec false (Bool.rec false (liesB h.H A.heap) (Nat.ble A.next h.base)) (leq veq6 args h.args)) (Nat.beq f h.f)
def hookCall (h : Hook) (c : Caller) (f : FuncId) (args : List Value) (A : AW) : Option (Value × AW) := Bool.rec (c f args A) (some (h.v, ⟨putAll h.R A.heap, h.next⟩)) (hookFits h f args A)
def hookAll (l : List Hook) (c : Caller) : Caller := List.rec c (fun h _ ih => hookCall h ih) l
/-- Each object is told once. -/
def onceB (l : List (Nat × AO)) : Bool := List.rec true (fun p l ih => Bool.rec false ih (bnot (keyB p.1 l))) l
def hookShape (h : Hook) : Bool := Bool.rec false (Bool.rec false (onceB h.H) (onceB h.R)) (keepB h.H h.R)
end

theorem leq_eq {α : Type} {f : α → α → Bool} (hf : ∀ a b, f a b = true → a = b) : ∀ {l m : List α}, leq f l m = true → l = m := by
  intro l
  induction l with
  | nil => intro m h; cases m with
    | nil => rfl
    | cons b m => cases h
  | cons a l ih =>
    intro m h
    cases m with
    | nil => cases h
    | cons b m =>
      obtain ⟨h1, h2⟩ := recTrue.1 (show (Bool.rec false (leq f l m) (f a b) : Bool) = true from h)
      rw [ih h2, hf a b h1]
theorem veqD_eq : ∀ (n : Nat) (x y : Value), veqD n x y = true → x = y := by
  intro n
  induction n with
  | zero => intro x y h; exact veq_eq h
  | succ n ih =>
    intro x y h
    cases x with
    | agg a => cases y <;> first | (cases h; done) | (rename_i b; have h : leq (veqD n) a.toList b.toList = true := h; rw [Array.toList_inj.1 (leq_eq ih h)])
    | tuple a => cases y <;> first | (cases h; done) | (rename_i b; have h : leq (veqD n) a.toList b.toList = true := h; rw [Array.toList_inj.1 (leq_eq ih h)])
    | iface t v => cases y <;> first | (cases h; done) | (rename_i u w; have h : (Bool.rec false (veqD n v w) (Nat.beq t u) : Bool) = true := h; rw [recTrue] at h; rw [beqIff.1 h.1, ih _ _ h.2])
    | func f a c =>
      cases f with
      | func f =>
        cases y <;> try (cases h; done)
        rename_i g b d
        cases g <;> try (cases h; done)
        rename_i g
        have h : (Bool.rec false (Bool.rec false (leq (veqD n) c.toList d.toList) (leq (veqD n) a.toList b.toList)) (Nat.beq f g) : Bool) = true := h
        rw [recTrue, recTrue] at h
        rw [beqIff.1 h.1, Array.toList_inj.1 (leq_eq ih h.2.1), Array.toList_inj.1 (leq_eq ih h.2.2)]
      | _ => exact veq_eq h
    | _ => exact veq_eq h
theorem veq6_eq {x y : Value} (h : veq6 x y = true) : x = y := veqD_eq 6 x y h
theorem mdEq_eq {a b : Md} (h : mdEq a b = true) : a = b := by
  cases a <;> cases b <;> first | rfl | (cases h; done) | (rw [beqIff.1 h])
theorem entEq_eq {a b : MapEntry} (h : entEq a b = true) : a = b := by
  have h : (Bool.rec false (Bool.rec false (Nat.beq a.born b.born) (veq6 a.val b.val)) (veq6 a.key b.key) : Bool) = true := h
  rw [recTrue, recTrue] at h
  obtain ⟨k, v, n⟩ := a; obtain ⟨k', v', n'⟩ := b
  simp only at h
  rw [veq6_eq h.1, veq6_eq h.2.1, beqIff.1 h.2.2]
theorem aoEq_eq {a b : AO} (h : aoEq a b = true) : a = b := by
  cases a with
  | row c e m =>
    cases b <;> try (cases h; done)
    rename_i c' e' m'
    have h : (Bool.rec false (Bool.rec false (leq veq6 c c') (mdEq m m')) (Nat.beq e e') : Bool) = true := h
    rw [recTrue, recTrue] at h
    rw [beqIff.1 h.1, mdEq_eq h.2.1, leq_eq (fun _ _ => veq6_eq) h.2.2]
  | map es k =>
    cases b <;> try (cases h; done)
    rename_i es' k'
    have h : (Bool.rec false (leq entEq es es') (Nat.beq k k') : Bool) = true := h
    rw [recTrue] at h
    rw [beqIff.1 h.1, leq_eq (fun _ _ => entEq_eq) h.2]
  | dead => cases b <;> first | rfl | (cases h; done)
theorem liesB_get {H : T AO} : ∀ {l : List (Nat × AO)}, liesB l H = true → ∀ i o, (i, o) ∈ l → H.get i = some o := by
  intro l
  induction l with
  | nil => intro _ i o h; cases h
  | cons p l ih =>
    intro h i o hm
    have h : (Bool.rec false (liesB l H) (Option.rec false (fun o => aoEq o p.2) (H.get p.1) : Bool) : Bool) = true := h
    rw [recTrue] at h
    rcases List.mem_cons.1 hm with e | hm
    · subst e
      cases hg : H.get i with
      | none => rw [hg] at h; cases h.1
      | some o' => rw [hg] at h; rw [aoEq_eq (show aoEq o' o = true from h.1)]
    · exact ih h.2 i o hm
theorem keyB_iff {i : Nat} : ∀ {l : List (Nat × AO)}, keyB i l = true ↔ ∃ o, (i, o) ∈ l := by
  intro l
  induction l with
  | nil => constructor
           · intro h; cases h
           · rintro ⟨o, h⟩; cases h
  | cons p l ih =>
    show (Bool.rec (keyB i l) true (Nat.beq i p.1) : Bool) = true ↔ _
    cases hb : Nat.beq i p.1 with
    | true => have := beqIff.1 hb; subst this; exact ⟨fun _ => ⟨p.2, by simp⟩, fun _ => rfl⟩
    | false =>
      have hne : i ≠ p.1 := fun e => by rw [beqIff.2 e] at hb; cases hb
      show keyB i l = true ↔ _
      rw [ih]
      constructor
      · rintro ⟨o, h⟩; exact ⟨o, by simp [h]⟩
      · rintro ⟨o, h⟩
        rcases List.mem_cons.1 h with e | h
        · exact absurd (by rw [← e]) hne
        · exact ⟨o, h⟩
theorem putAll_get (i : Nat) : ∀ (l : List (Nat × AO)) (H : T AO), onceB l = true → (∀ o, (i, o) ∈ l → (putAll l H).get i = some o) ∧ (keyB i l = false → (putAll l H).get i = H.get i) := by
  intro l
  induction l with
  | nil => intro H _; exact ⟨fun o h => (by cases h), fun _ => rfl⟩
  | cons p l ih =>
    intro H ho
    have ho : (Bool.rec false (onceB l) (bnot (keyB p.1 l)) : Bool) = true := ho
    rw [recTrue, bnot_eq] at ho
    have hk : keyB p.1 l = false := by simpa using ho.1
    obtain ⟨h1, h2⟩ := ih (H.set p.1 p.2) ho.2
    refine ⟨fun o hm => ?_, fun hn => ?_⟩
    · show (putAll l (H.set p.1 p.2)).get i = some o
      rcases List.mem_cons.1 hm with e | hm
      · subst e; rw [h2 hk, get_set, if_pos rfl]
      · exact h1 o hm
    · show (putAll l (H.set p.1 p.2)).get i = H.get i
      have hn : (Bool.rec (keyB i l) true (Nat.beq i p.1) : Bool) = false := hn
      cases hb : Nat.beq i p.1 with
      | true => rw [hb] at hn; cases hn
      | false =>
        rw [hb] at hn
        rw [h2 hn, get_set, if_neg (fun e => by rw [beqIff.2 e] at hb; cases hb)]
theorem get_e {α : Type} (i : Nat) : (T.e : T α).get i = none := rfl
theorem keepB_get {R : List (Nat × AO)} : ∀ {H : List (Nat × AO)}, keepB H R = true → ∀ i o, (i, o) ∈ H → mayW o = true → keyB i R = true := by
  intro H
  induction H with
  | nil => intro _ i o h; cases h
  | cons p H ih =>
    intro h i o hm hw
    have h : (Bool.rec false (keepB H R) (Bool.rec true (keyB p.1 R) (mayWB p.2) : Bool) : Bool) = true := h
    rw [recTrue, impTrue] at h
    rcases List.mem_cons.1 hm with e | hm
    · subst e; exact h.1 (by cases o <;> exact hw)
    · exact ih h.2 i o hm hw
variable {P : Program}
theorem hook_ok {c0 : Caller} (h0 : CallOK P c0) {h : Hook} (hs : hookShape h = true) (hr : hookRes h (c0 h.f h.args ⟨putAll h.H .e, h.base⟩) = true) : HookOK P (hookCall h) := by
  intro c hc f args A v A' hcall σ w args' hR ha
  unfold hookCall at hcall
  cases hfit : hookFits h f args A with
  | false => rw [hfit] at hcall; exact hc f args A v A' hcall σ w args' hR ha
  | true =>
    rw [hfit] at hcall
    have hcall : some (h.v, (⟨putAll h.R A.heap, h.next⟩ : AW)) = some (v, A') := hcall
    cases hcall
    have hfit : (Bool.rec false (Bool.rec false (Bool.rec false (liesB h.H A.heap) (Nat.ble A.next h.base)) (leq veq6 args h.args)) (Nat.beq f h.f) : Bool) = true := hfit
    rw [recTrue, recTrue, recTrue] at hfit
    obtain ⟨hf, hargs, hbase, hlies⟩ := hfit
    obtain rfl := beqIff.1 hf
    obtain rfl := leq_eq (fun _ _ => veq6_eq) hargs
    have hbase := bleIff.1 hbase
    have hs : (Bool.rec false (Bool.rec false (onceB h.H) (onceB h.R)) (keepB h.H h.R) : Bool) = true := hs
    rw [recTrue, recTrue] at hs
    obtain ⟨hkeep, hR1, hH1⟩ := hs
    cases hev : c0 h.f h.args ⟨putAll h.H .e, h.base⟩ with
    | none => rw [hev] at hr; cases hr
    | some p =>
      obtain ⟨v1, B⟩ := p
      rw [hev] at hr
      have hr : (Bool.rec false (Bool.rec false (liesB h.R B.heap) (Nat.beq B.next h.next)) (veq6 v1 h.v) : Bool) = true := hr
      rw [recTrue, recTrue] at hr
      obtain ⟨hv, hnext, hRB⟩ := hr
      obtain rfl := veq6_eq hv
      have hnext := beqIff.1 hnext
      -- the small memory
      have hget : ∀ i o, (putAll h.H .e).get i = some o → (i, o) ∈ h.H ∧ A.heap.get i = some o := fun i o hg => by
        obtain ⟨k1, k2⟩ := putAll_get i h.H .e hH1
        cases hk : keyB i h.H with
        | false => rw [k2 hk] at hg; cases hg
        | true =>
          obtain ⟨o', ho'⟩ := keyB_iff.1 hk
          rw [k1 o' ho'] at hg; cases hg
          exact ⟨ho', liesB_get hlies i _ ho'⟩
      have hRs : Rel P σ ⟨putAll h.H .e, h.base⟩ w := by
        refine ⟨fun i b d o hi hg hl => hR.obj i b d o hi (hget i o hg).2 hl, fun i j b d d' o o' hi hj hg hg' hl hl' => hR.inj i j b d d' o o' hi hj (hget i o hg).2 (hget j o' hg').2 hl hl', fun i hi => hR.lim i (Nat.le_trans hbase hi), hR.glob, fun i hi => ?_⟩
        cases hg : (putAll h.H .e).get i with
        | none => rfl
        | some o => have := (hget i o hg).2; rw [hR.top i (Nat.le_trans hbase hi)] at this; cases this
      have hwr : ∀ b, Wr σ ⟨putAll h.H .e, h.base⟩ b → ∃ k d o, σ k = some (b, d) ∧ (k, o) ∈ h.H ∧ A.heap.get k = some o ∧ mayW o = true := by
        rintro b ⟨k, d, o, h1, h2, h3⟩
        exact ⟨k, d, o, h1, (hget k o h2).1, (hget k o h2).2, h3⟩
      have hwrA : ∀ b, Wr σ ⟨putAll h.H .e, h.base⟩ b → Wr σ A b := fun b hb => by
        obtain ⟨k, d, o, h1, _, h3, h4⟩ := hwr b hb; exact ⟨k, d, o, h1, h3, h4⟩
      -- the merged one
      have hm : ∀ i o, (putAll h.R A.heap).get i = some o → ((i, o) ∈ h.R ∧ B.heap.get i = some o) ∨ (keyB i h.R = false ∧ A.heap.get i = some o ∧ i < A.next) := fun i o hg => by
        obtain ⟨k1, k2⟩ := putAll_get i h.R A.heap hR1
        cases hk : keyB i h.R with
        | false =>
          rw [k2 hk] at hg
          refine .inr ⟨rfl, hg, Nat.lt_of_not_le fun hle => ?_⟩
          rw [hR.top i hle] at hg; cases hg
        | true =>
          obtain ⟨o', ho'⟩ := keyB_iff.1 hk
          rw [k1 o' ho'] at hg; cases hg
          exact .inl ⟨ho', liesB_get hRB i _ ho'⟩
      have good : ∀ v' w', Good P σ ⟨putAll h.H .e, h.base⟩ w h.v B v' w' → Good P σ A w h.v ⟨putAll h.R A.heap, h.next⟩ v' w' := by
        rintro v' w' ⟨σ', hv', hR', hS'⟩
        have hext : ∀ i, i < A.next → σ' i = σ i := fun i hi => hS'.ext i (Nat.lt_of_lt_of_le hi hbase)
        have hnb : h.base ≤ h.next := by rw [← hnext]; exact hS'.next
        have hsub := hS'.sub hRs.lim
        -- blocks of what stays
        have hstay : ∀ i b d o, keyB i h.R = false → A.heap.get i = some o → live o = true → σ i = some (b, d) → ¬ Wr σ ⟨putAll h.H .e, h.base⟩ b := fun i b d o hk hg hl hi hw => by
          obtain ⟨k, d', o', h1, h2, h3, h4⟩ := hwr b hw
          obtain rfl := hR.inj i k b d d' o o' hi h1 hg h3 hl (live_of_mayW h4)
          rw [keepB_get hkeep i o' h2 h4] at hk; cases hk
        have hlt : ∀ i b d o, A.heap.get i = some o → live o = true → σ i = some (b, d) → b < w.heap.size := fun i b d o hg hl hi => by
          obtain ⟨x, hx, _⟩ := hR.obj i b d o hi hg hl
          exact (Array.getElem?_eq_some_iff.1 hx).1
        -- one told of, one that stays
        have hmix : ∀ i j b d d' o o', (i, o) ∈ h.R → B.heap.get i = some o → live o = true → σ' i = some (b, d) → keyB j h.R = false → A.heap.get j = some o' → live o' = true → σ j = some (b, d') → i = j := fun i j b d d' o o' _ hgi hli hi hkj hgj hlj hj => by
          have hb := hlt j b d' o' hgj hlj hj
          by_cases hib : i < h.base
          · obtain ⟨o2, ho2, hl2⟩ := hS'.old i o hib hgi hli
            have hi2 : σ i = some (b, d) := by rw [← hS'.ext i hib]; exact hi
            exact hR.inj i j b d d' o2 o' hi2 hj (hget i o2 ho2).2 hgj hl2 hlj
          · have hw := hS'.new i b d o (Nat.le_of_not_lt hib) hi hgi hli hb
            exact (hstay j b d' o' hkj hgj hlj hj hw).elim
        refine ⟨σ', hv', ⟨?_, ?_, ?_, hR'.glob, ?_⟩, ⟨hext, Nat.le_trans hbase hnb, hS'.os, hS'.tape, hS'.output, hS'.size, ?_, ?_, ?_, ?_⟩⟩
        · intro i b d o hi hg hl
          rcases hm i o hg with ⟨_, hgB⟩ | ⟨hk, hgA, hlt'⟩
          · exact hR'.obj i b d o hi hgB hl
          · rw [hext i hlt'] at hi
            obtain ⟨x, hx, hor⟩ := hR.obj i b d o hi hgA hl
            refine ⟨x, ?_, hor.sub hsub⟩
            rw [hS'.block b (hlt i b d o hgA hl hi) (hstay i b d o hk hgA hl hi)]; exact hx
        · intro i j b d d' o o' hi hj hgi hgj hli hlj
          rcases hm i o hgi with ⟨hri, hgiB⟩ | ⟨hki, hgiA, hlti⟩ <;> rcases hm j o' hgj with ⟨hrj, hgjB⟩ | ⟨hkj, hgjA, hltj⟩
          · exact hR'.inj i j b d d' o o' hi hj hgiB hgjB hli hlj
          · rw [hext j hltj] at hj; exact hmix i j b d d' o o' hri hgiB hli hi hkj hgjA hlj hj
          · rw [hext i hlti] at hi; exact (hmix j i b d' d o' o hrj hgjB hlj hj hki hgiA hli hi).symm
          · rw [hext i hlti] at hi; rw [hext j hltj] at hj; exact hR.inj i j b d d' o o' hi hj hgiA hgjA hli hlj
        · intro i hi; exact hR'.lim i (by rw [hnext]; exact hi)
        · intro i hi
          cases hg : (putAll h.R A.heap).get i with
          | none => rfl
          | some o =>
            rcases hm i o hg with ⟨_, hgB⟩ | ⟨_, hgA, hlt'⟩
            · rw [hR'.top i (by rw [hnext]; exact hi)] at hgB; cases hgB
            · have hi : h.next ≤ i := hi; omega
        · intro b hb hw; exact hS'.block b hb fun h' => hw (hwrA b h')
        · rintro b hb ⟨i, d, o, hi, hg, hmw⟩
          rcases hm i o hg with ⟨_, hgB⟩ | ⟨_, hgA, hlt'⟩
          · exact hwrA b (hS'.wr b hb ⟨i, d, o, hi, hgB, hmw⟩)
          · rw [hext i hlt'] at hi; exact ⟨i, d, o, hi, hgA, hmw⟩
        · intro i b d o hi hs' hg hl hb
          rcases hm i o hg with ⟨_, hgB⟩ | ⟨_, _, hlt'⟩
          · by_cases hib : i < h.base
            · rw [hS'.ext i hib, hR.lim i hi] at hs'; cases hs'
            · exact hwrA b (hS'.new i b d o (Nat.le_of_not_lt hib) hs' hgB hl hb)
          · omega
        · intro i o hi hg hl
          rcases hm i o hg with ⟨_, hgB⟩ | ⟨_, hgA, _⟩
          · obtain ⟨o2, ho2, hl2⟩ := hS'.old i o (Nat.lt_of_lt_of_le hi hbase) hgB hl
            exact ⟨o2, (hget i o2 ho2).2, hl2⟩
          · exact ⟨o, hgA, hl⟩
      rcases h0 h.f h.args ⟨putAll h.H .e, h.base⟩ h.v B hev σ w args' hRs ha with ⟨v', w', e, hg⟩ | ⟨g, as_, e, hg⟩
      · exact .inl ⟨v', w', e, good v' w' hg⟩
      · refine .inr ⟨g, as_, e, Calls.mono hg fun en w' he => ?_⟩
        cases en with
        | returned v' => exact good v' w' he
        | _ => exact he.elim
theorem hookAll_nil : HookOK P (hookAll []) := fun _ h => h
theorem hookAll_cons {h : Hook} {l : List Hook} (hh : HookOK P (hookCall h)) (hl : HookOK P (hookAll l)) : HookOK P (hookAll (h :: l)) := fun c hc => hh _ (hl c hc)
theorem HookOK.comp {h g : Caller → Caller} (hh : HookOK P h) (hg : HookOK P g) : HookOK P fun c => h (g c) := fun c hc => hh _ (hg c hc)
end Go.Ev
