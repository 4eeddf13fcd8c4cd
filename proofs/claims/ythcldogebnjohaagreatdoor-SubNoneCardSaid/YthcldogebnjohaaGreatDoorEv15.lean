/- The evaluator with variables: what is told of a function in a plain form: ways out, each by a thing that varies; a call finds by itself of which things it is told. -/
import Derived.Test.YthcldogebnjohaaGreatDoorEv13
section
set_option linter.unusedSectionVars false
namespace Go.Ev
variable {P : Program} [Frozen P]
structure Out (α : Type) where
  β : Type
  Q : α → β → Prop
  v : α → β → Value
  R : α → β → List (Nat × PO)
  n : α → β → Nat
  ren : Value → AW → List (Nat × Nat)
structure SpecD where
  f : FuncId
  α : Type
  args : α → List Value
  R : α → List (Nat × PO)
  n : Nat
  pre : α → Prop
  outs : List (Out α)
  pick : Value → AW → Nat
  find : List Value → AW → Option (α × List (Nat × Nat))
noncomputable section
def outsW {α : Type} (a : α) (K : Value → List (Nat × PO) → Nat → Prop) (l : List (Out α)) : Prop := List.rec True (fun o _ ih => (∀ b : o.β, o.Q a b → K (o.v a b) (o.R a b) (o.n a b)) ∧ ih) l
def outAt {α : Type} (l : List (Out α)) (f : Out α → Prop) : Nat → Prop := List.rec (motive := fun _ => Nat → Prop) (fun _ => False) (fun o _ ih k => Nat.rec (f o) (fun k _ => ih k) k) l
def SpecD.spec (S : SpecD) : Spec := ⟨S.f, S.α, S.args, S.R, S.n, S.pre, fun a K => outsW a K S.outs⟩
def endD (P : Program) [Frozen P] (S : SpecD) (a : S.α) (v : Value) (A : AW) : Prop := outAt S.outs (fun o => ∃ b : o.β, o.Q a b ∧ seenW P S.n (o.ren v A) v A (o.v a b) (o.R a b) (o.n a b)) (S.pick v A)
def callD (P : Program) [Frozen P] (S : SpecD) (J : S.α → Prop) (args : List Value) (A : AW) (K : Value → AW → Prop) : Prop := cpo (S.find args A) fun p => (J p.1 ∧ S.pre p.1) ∧ cpb (okMS P.globals.size P.globals.size p.2 ⟨[], S.R p.1, S.n⟩)
  ((wvL (wv (rnm P.globals.size p.2) 5) (S.args p.1) args ∧ rowsW (rnm P.globals.size p.2) A.heap (S.R p.1)) ∧ outsW p.1 (backW P.globals.size S.n A.next p.2 (S.R p.1) A.heap K) S.outs)
def cwD (P : Program) [Frozen P] (S : SpecD) (cw : CW) : CW := fun f args A K => Bool.rec (cw f args A K) (callD P S (fun _ => True) args A K) (Nat.beq f S.f)
def cwR (P : Program) [Frozen P] (S : SpecD) (J : S.α → Prop) (cw : CW) : CW := fun f args A K => Bool.rec (cw f args A K) (callD P S J args A K) (Nat.beq f S.f)
end
theorem outAt_some {α : Type} {f : Out α → Prop} : ∀ {l : List (Out α)} {i : Nat}, outAt l f i → ∃ o ∈ l, f o := by
  intro l
  induction l with
  | nil => intro i h; exact h.elim
  | cons y l ih =>
    intro i h
    cases i with
    | zero => exact ⟨y, List.mem_cons_self, h⟩
    | succ i =>
      obtain ⟨o, h1, h2⟩ := ih (show outAt l f i from h)
      exact ⟨o, List.mem_cons_of_mem _ h1, h2⟩
theorem outsW_mem {α : Type} {a : α} {K : Value → List (Nat × PO) → Nat → Prop} : ∀ {l : List (Out α)}, outsW a K l → ∀ o ∈ l, ∀ b : o.β, o.Q a b → K (o.v a b) (o.R a b) (o.n a b) := by
  intro l
  induction l with
  | nil => intro _ o ho; cases ho
  | cons x l ih =>
    intro h o ho
    rcases List.mem_cons.1 ho with e | ho
    · subst e; exact h.1
    · exact ih h.2 o ho
theorem specD_at {E : Env} {cw : CW} (hE : EnvOK P E) (hcw : CwOK P cw) {S : SpecD} {an : Anns} {a : S.α} (h : S.pre a → fnW P E cw an S.f (S.args a) (mem (S.R a) S.n) (endD P S a)) : SpecAt P S.spec a := fun K hp hq => by
  obtain ⟨v, A', he, hf⟩ := fnW_sound hE hcw (h hp)
  obtain ⟨o, ho, b, hQ, hs⟩ := outAt_some he
  exact ⟨_, _, _, outsW_mem hq o ho b hQ, flatR_rows (cpb_iff.1 hs).2.2, fnSem_seen rfl hf hs⟩
theorem callD_W {S : SpecD} {J : S.α → Prop} {args : List Value} {A : AW} {K : Value → AW → Prop} (h : callD P S J args A K) : callW P S.spec J args A K := by
  unfold callD at h
  obtain ⟨⟨a, l⟩, _, ⟨hJ, hpre⟩, h⟩ := cpo_iff.1 h
  obtain ⟨h1, ⟨h2, h3⟩, h4⟩ := cpb_iff.1 h
  exact ⟨a, l, hJ, hpre, cpb_iff.2 ⟨h1, h2, h3, h4⟩⟩
theorem cwR_ok {S : SpecD} {J : S.α → Prop} {cw : CW} (h : ∀ a, J a → SpecAt P S.spec a) (hc : CwOK P cw) : CwOK P (cwR P S J cw) := fun f args A K hk => by
  unfold cwR at hk
  cases hb : Nat.beq f S.f with
  | false => rw [hb] at hk; exact hc f args A K hk
  | true =>
    rw [hb] at hk
    obtain ⟨v, A', h1, h2⟩ := callW_sound h (callD_W hk)
    rw [beqIff.1 hb]; exact ⟨v, A', h1, h2⟩
theorem cwD_ok {S : SpecD} {cw : CW} (h : SpecOK P S.spec) (hc : CwOK P cw) : CwOK P (cwD P S cw) := cwR_ok (J := fun _ => True) (fun a _ => h a) hc
end Go.Ev
end

/- The evaluator with variables: what rows hold; slices by their parts. -/
section
set_option linter.unusedSectionVars false
namespace Go.Ev
structure SL where
  nb : Bool
  b : Nat
  o : Nat
  l : Nat
  c : Nat
def slOf (v : Value) : SL := match v with
  | .slice (some ⟨b, o, _⟩) l c => ⟨false, b, o, l, c⟩
  | .iface _ (.slice (some ⟨b, o, _⟩) l c) => ⟨false, b, o, l, c⟩
  | .iface _ (.agg ⟨[.bool nb, .slice (some ⟨b, o, _⟩) l c]⟩) => ⟨nb, b, o, l, c⟩
  | _ => ⟨true, 0, 0, 0, 0⟩
abbrev mnS (i : Nat) (nb : Bool) (o l c : Nat) : Value := .iface MN (.agg ⟨[.bool nb, .slice (some ⟨i, o, none⟩) l c]⟩)
abbrev tgS (i o l c : Nat) : Value := .iface SYM (.slice (some ⟨i, o, none⟩) l c)
def renS (i : Nat) (v : Value) : List (Nat × Nat) := match v with
  | .slice (some ⟨b, _, _⟩) _ _ => [(i, b)]
  | .iface _ (.slice (some ⟨b, _, _⟩) _ _) => [(i, b)]
  | .iface _ (.agg ⟨[.bool _, .slice (some ⟨b, _, _⟩) _ _]⟩) => [(i, b)]
  | _ => []
def iv (v : Value) : Int := match v with
  | .int _ z => z
  | .iface _ (.int _ z) => z
  | _ => 0
def bv (v : Value) : Bool := match v with
  | .bool z => z
  | .iface _ (.bool z) => z
  | _ => false
def renP (i : Nat) (v : Value) : List (Nat × Nat) := match v with
  | .pointer (some ⟨b, _, _⟩) => [(i, b)]
  | .iface _ (.pointer (some ⟨b, _, _⟩)) => [(i, b)]
  | _ => []
noncomputable section
def lv (l : List Value) (i : Nat) : Value := Option.rec .nilIface (fun v => v) (lget l i)
def agv (v : Value) : List Value := match v with
  | .agg c => c.toList
  | .tuple c => c.toList
  | _ => []
def tv (s : St) (i : Nat) : Value := Option.rec .nilIface (fun v => v) (s.F.get i)
def rowO (A : AW) (b : Nat) : List Value := Option.rec [] (fun o => AO.rec (fun c _ _ => c) (fun _ _ => []) [] o) (A.heap.get b)
def rowV (A : AW) (v : Value) : List Value := match v with
  | .slice (some ⟨b, _, _⟩) _ _ => rowO A b
  | .iface _ (.slice (some ⟨b, _, _⟩) _ _) => rowO A b
  | .iface _ (.agg ⟨[.bool _, .slice (some ⟨b, _, _⟩) _ _]⟩) => rowO A b
  | _ => []
end
def HV {α : Type} (f : α → Value) (c : List Value) (o : Nat) (xs : List α) : Prop := ∀ i x, xs[i]? = some x → Rd c (o + i) (f x)
abbrev HI (k : IntKind) (c : List Value) (o : Nat) (xs : List Int) : Prop := HV (Value.int k) c o xs
structure HW {α : Type} (f : α → Value) (c : List Value) (xs : List α) : Prop where
  len : c.length = xs.length
  at_ : HV f c 0 xs
abbrev HE (k : IntKind) (c : List Value) (xs : List Int) : Prop := HW (Value.int k) c xs
theorem Rd.mono_append {c ys : List Value} {o : Nat} {v : Value} (h : Rd c o v) : Rd (c ++ ys) o v := by
  unfold Rd at h ⊢
  have hl : o < c.length := by
    rcases h with h | h <;> exact (List.getElem?_eq_some_iff.1 h).1
  rw [List.getElem?_append_left hl]; exact h
theorem HW.nil {α : Type} {f : α → Value} : HW f [] [] := ⟨rfl, fun i x h => by simp at h⟩
theorem HW.append {α : Type} {f : α → Value} {c ys : List Value} {xs zs : List α} (h : HW f c xs) (g : HW f ys zs) : HW f (c ++ ys) (xs ++ zs) := by
  refine ⟨by simp [h.len, g.len], fun i x hx => ?_⟩
  rw [Nat.zero_add]
  by_cases hi : i < xs.length
  · rw [List.getElem?_append_left hi] at hx
    have := h.at_ i x hx
    rw [Nat.zero_add] at this
    exact this.mono_append
  · rw [List.getElem?_append_right (by omega)] at hx
    have := g.at_ _ x hx
    rw [Nat.zero_add] at this
    unfold Rd at this ⊢
    rw [List.getElem?_append_right (by have := h.len; omega), h.len]; exact this
theorem HW.one {k : IntKind} {z : Int} : HE k [tgI k z] [z] := ⟨rfl, fun i x h => by
  cases i with
  | zero => cases h; exact .inr rfl
  | succ i => simp at h⟩
theorem HW.snoc {k : IntKind} {c : List Value} {xs : List Int} {z : Int} (h : HE k c xs) : HE k (c ++ [tgI k z]) (xs ++ [z]) := h.append .one
theorem HW.mem {k : IntKind} {c : List Value} {xs : List Int} (h : HE k c xs) : ∀ v ∈ c, ∃ x, v = .int k x ∨ v = tgI k x := fun v hv => by
  obtain ⟨i, hi, rfl⟩ := List.getElem_of_mem hv
  have hx : xs[i]? = some (xs[i]'(by rw [← h.len]; exact hi)) := List.getElem?_eq_getElem _
  have := h.at_ i _ hx
  rw [Nat.zero_add] at this
  unfold Rd at this
  rw [List.getElem?_eq_getElem hi] at this
  rcases this with e | e
  · exact ⟨_, .inl (Option.some.inj e)⟩
  · exact ⟨_, .inr (Option.some.inj e)⟩
theorem ftag_int (k : IntKind) (x : Int) : ftag (.int k x) = true := rfl
theorem ftag_tgI (k : IntKind) (x : Int) : ftag (tgI k x) = true := rfl
theorem HW.flat {k : IntKind} {c : List Value} {xs : List Int} (h : HE k c xs) : FlatL c := fun v hv => by
  obtain ⟨x, rfl | rfl⟩ := h.mem v hv
  · exact ftag_int k x
  · exact ftag_tgI k x
theorem oneK_tgI (k : IntKind) (x : Int) : oneK (tgI k x) = true := rfl
theorem HW.oneK {k : IntKind} {c : List Value} {xs : List Int} (h : HE k c xs) : lall oneK c = true := by
  rw [lall_iff]
  intro v hv
  obtain ⟨x, rfl | rfl⟩ := h.mem v hv
  · rfl
  · exact oneK_tgI k x
theorem HW.get {α : Type} {f : α → Value} {c : List Value} {xs : List α} (h : HW f c xs) {i : Nat} (hi : i < xs.length) : Rd c i (f (xs[i]'hi)) := by
  have := h.at_ i _ (List.getElem?_eq_getElem hi)
  rwa [Nat.zero_add] at this
theorem HV.get {α : Type} {f : α → Value} {c : List Value} {o : Nat} {xs : List α} (h : HV f c o xs) {i : Nat} (hi : i < xs.length) : Rd c (o + i) (f (xs[i]'hi)) := h i _ (List.getElem?_eq_getElem hi)
theorem HW.hv {α : Type} {f : α → Value} {c : List Value} {xs : List α} (h : HW f c xs) : HV f c 0 xs := h.at_
theorem HV.take {α : Type} {f : α → Value} {c : List Value} {o : Nat} {xs : List α} (h : HV f c o xs) (n : Nat) : HV f c o (xs.take n) := fun i x hx => h i x (by
  rw [List.getElem?_take] at hx
  split at hx
  · exact hx
  · cases hx)
theorem HW.memV {α : Type} {f : α → Value} {c : List Value} {xs : List α} (h : HW f c xs) : ∀ v ∈ c, ∃ x, v = f x ∨ v = tg (f x) := fun v hv => by
  obtain ⟨i, hi, rfl⟩ := List.getElem_of_mem hv
  have hx : xs[i]? = some (xs[i]'(by rw [← h.len]; exact hi)) := List.getElem?_eq_getElem _
  have := h.at_ i _ hx
  rw [Nat.zero_add] at this
  unfold Rd at this
  rw [List.getElem?_eq_getElem hi] at this
  rcases this with e | e
  · exact ⟨_, .inl (Option.some.inj e)⟩
  · exact ⟨_, .inr (Option.some.inj e)⟩
theorem HW.flatB {c : List Value} {xs : List Bool} (h : HW Value.bool c xs) : FlatL c := fun v hv => by
  obtain ⟨x, rfl | rfl⟩ := h.memV v hv <;> rfl
theorem HW.oneB {c : List Value} {xs : List Bool} (h : HW Value.bool c xs) : lall Ev.oneK c = true := by
  rw [lall_iff]
  intro v hv
  obtain ⟨x, rfl | rfl⟩ := h.memV v hv <;> rfl
theorem flatL_nil : FlatL [] := fun _ h => by cases h
theorem HV.win {α : Type} {f : α → Value} {c : List Value} {o : Nat} {xs : List α} (h : HV f c o xs) (hl : o + xs.length ≤ c.length) : HW f (lwin c o xs.length) xs := by
  refine ⟨by simp [lwin]; omega, fun i x hx => ?_⟩
  have hi : i < xs.length := (List.getElem?_eq_some_iff.1 hx).1
  have := h i x hx
  rw [Nat.zero_add]
  unfold Rd at this ⊢
  unfold lwin
  rw [List.getElem?_take_of_lt hi, List.getElem?_drop]; exact this
theorem HW.win {α : Type} {f : α → Value} {c : List Value} {xs : List α} (h : HW f c xs) : HW f (lwin c 0 xs.length) xs := h.at_.win (by have := h.len; omega)
theorem HW.put {k : IntKind} {c : List Value} {xs : List Int} {z : Int} {i : Nat} (h : HE k c xs) (hi : i < xs.length) : HE k (lput c i [tgI k z]) (xs.set i z) := by
  have hl := h.len
  refine ⟨by simp [lput]; omega, fun j x hx => ?_⟩
  rw [Nat.zero_add]
  unfold Rd lput
  by_cases e : j = i
  · subst e
    rw [List.getElem?_set_self (by omega)] at hx
    cases hx
    right
    rw [List.getElem?_append_right (by simp; omega)]
    simp [show j - min j c.length = 0 by omega]
    rfl
  · rw [List.getElem?_set_ne (by omega)] at hx
    have := h.at_ j x hx
    rw [Nat.zero_add] at this
    unfold Rd at this
    by_cases hj : j < i
    · rw [List.getElem?_append_left (by simp; omega), List.getElem?_take_of_lt hj]; exact this
    · rw [List.getElem?_append_right (by simp; omega)]
      have e1 : j - (List.take i c).length = (j - i - 1) + 1 := by simp; omega
      rw [e1, List.singleton_append, List.getElem?_cons_succ, List.getElem?_drop]
      have e2 : i + [tgI k z].length + (j - i - 1) = j := by simp; omega
      rw [e2]; exact this
structure Sli {α : Type} (f : α → Value) (sz : Nat) (nb : Bool) (o l k : Nat) (c : List Value) (xs : List α) : Prop where
  at_ : HV f c o xs
  len : xs.length = l * sz
  nil : nb = true → l = 0 ∧ k = 0
  fit : nb = false → o + l * sz ≤ c.length
  cap : l ≤ k
  flat : FlatL c
theorem Sli.none {α : Type} {f : α → Value} {sz : Nat} : Sli f sz true 0 0 0 [] [] := ⟨fun i x h => by simp at h, by simp, fun _ => ⟨rfl, rfl⟩, (fun h => nomatch h), Nat.le_refl _, flatL_nil⟩
theorem Sli.row {α : Type} {f : α → Value} {sz l k : Nat} {c : List Value} {xs : List α} (h : HW f c xs) (hl : xs.length = l * sz) (hk : l ≤ k) (hf : FlatL c) : Sli f sz false 0 l k c xs := ⟨h.at_, hl, (fun h => nomatch h), (fun _ => by rw [Nat.zero_add, h.len, hl]; exact Nat.le_refl _), hk, hf⟩
theorem Sli.win {α : Type} {f : α → Value} {sz o l k : Nat} {nb : Bool} {c : List Value} {xs : List α} (h : Sli f sz nb o l k c xs) (hn : nb = false) : HW f (lwin c o (l * sz)) xs := by
  have := h.at_.win (by rw [h.len]; exact h.fit hn)
  rw [h.len] at this
  exact this
theorem Sli.nilE {α : Type} {f : α → Value} {sz o l k : Nat} {nb : Bool} {c : List Value} {xs : List α} (h : Sli f sz nb o l k c xs) (hn : nb = true) : xs = [] := by
  have := h.len
  rw [(h.nil hn).1, Nat.zero_mul] at this
  exact List.eq_nil_of_length_eq_zero this
end Go.Ev
end
