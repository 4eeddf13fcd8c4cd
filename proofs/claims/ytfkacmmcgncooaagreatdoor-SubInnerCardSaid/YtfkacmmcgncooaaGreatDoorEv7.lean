/- The evaluator with variables: states by their parts; a state seen as another one. -/
import Derived.Test.YtfkacmmcgncooaaGreatDoorEv5
set_option linter.unusedSectionVars false
namespace Go.Ev
variable {P : Program} {σ : Sg} {w : World} [Frozen P]
noncomputable section
inductive PO where
  | p (o : AO)
  | f (c : List Value) (e : TypeId) (m : Md)
def PO.ao : PO → AO
  | .p o => o
  | .f c e m => .row c e m
def tput {α β : Type} (g : β → α) (l : List (Nat × β)) : T α := List.rec .e (fun p _ ih => T.set ih p.1 (g p.2)) l
structure MS where
  F : List (Nat × Value)
  R : List (Nat × PO)
  next : Nat
def mem (R : List (Nat × PO)) (next : Nat) : AW := ⟨tput PO.ao R, next⟩
def MS.st (m : MS) : St := ⟨tput id m.F, mem m.R m.next, []⟩
def wmd (m m' : Md) (c : List Value) : Prop := match m with
  | .own => match m' with
    | .own => True
    | _ => False
  | .ro => match m' with
    | .own | .ro => True
    | _ => False
  | .gro => True
  | .grown k => match m' with
    | .grown k' => k = k'
    | .own => k = 0 ∧ c = []
    | _ => False
def weL (f : Value → Value → Prop) (l : List MapEntry) : List MapEntry → Prop := List.rec (motive := fun _ => List MapEntry → Prop) (fun m => match m with
    | [] => True
    | _ => False)
  (fun x _ ih m => match m with
    | [] => False
    | y :: m => cpb (veq6 x.key y.key) (cpb (flat x.key) (cpb (Nat.beq x.born y.born) (f x.val y.val ∧ ih m)))) l
def frontL (c : List Value) : List Value → List Value := List.rec (motive := fun _ => List Value → List Value) (fun _ => []) (fun _ _ ih l => match l with
    | [] => []
    | y :: l => y :: ih l) c
def frontM (m : Md) (c c' : List Value) : List Value := match m with
  | .grown _ => frontL c c'
  | .gro => frontL c c'
  | _ => c'
def wo (r : Nat → Option Nat) (o o' : AO) : Prop := match o with
  | .row c e m => match o' with
    | .row c' e' m' => cpb (Nat.beq e e') (wmd m m' c' ∧ wvL (wv r 5) c (frontM m c c'))
    | _ => False
  | .map es k => match o' with
    | .map es' k' => k = k' ∧ weL (wv r 5) es es'
    | _ => False
  | .dead => True
def isUnk : Value → Bool
  | .iface t .nilIface => Nat.beq t UNK
  | .iface t _ => isX t
  | _ => false
def ftag (v : Value) : Bool := flat (usym v) || isUnk v
def FlatL (c : List Value) : Prop := ∀ v ∈ c, ftag v = true
def wpo (r : Nat → Option Nat) (q : PO) (o' : AO) : Prop := match q with
  | .p o => wo r o o'
  | .f c e m => match o' with
    | .row c' e' m' => cpb (Nat.beq e e') (wmd m m' c' ∧ FlatL c ∧ c = c')
    | _ => False
def valsB (l : List (Nat × Nat)) : Bool := List.rec true (fun p l ih => ih && lall (fun q => bnot (Nat.beq q.2 p.2)) l) l
def okMS (ng n0 : Nat) (l : List (Nat × Nat)) (m : MS) : Bool := Nat.ble ng n0 && (Nat.ble n0 m.next && (lall (fun p => Nat.blt p.1 m.next) m.R && (lall (fun p => Nat.ble n0 p.1 && (Nat.blt p.1 m.next && Nat.ble n0 p.2)) l && valsB l)))
def slotsW (r : Nat → Option Nat) (s : St) (l : List (Nat × Value)) : Prop := List.rec True (fun p _ ih => cpo (s.F.get p.1) (fun u => wv r 5 p.2 u) ∧ ih) l
def flatP : PO → Prop
  | .f c _ _ => FlatL c ∧ True
  | .p _ => True
def rowsW (r : Nat → Option Nat) (H : T AO) (l : List (Nat × PO)) : Prop := List.rec True (fun p _ ih => Option.rec (flatP p.2) (fun j => cpo (H.get j) fun o' => wpo r p.2 o') (r p.1) ∧ ih) l
def dsW (ds : List Deferred) : Prop := match ds with
  | [] => True
  | _ => False
def Weak (P : Program) [Frozen P] (n0 : Nat) (l : List (Nat × Nat)) (s : St) (m : MS) : Prop := cpb (okMS P.globals.size n0 l m) (slotsW (rnm n0 l) s m.F ∧ rowsW (rnm n0 l) s.A.heap m.R ∧ dsW s.ds)
end
theorem tput_get {α β : Type} {g : β → α} {l : List (Nat × β)} {i : Nat} {x : α} (h : (tput g l).get i = some x) : ∃ y, (i, y) ∈ l ∧ x = g y := by
  induction l with
  | nil => cases h
  | cons p l ih =>
    have h5 : (T.set (tput g l) p.1 (g p.2)).get i = some x := h
    clear h
    rw [get_set] at h5
    by_cases e : i = p.1
    · rw [if_pos e] at h5; cases h5; exact ⟨p.2, by rw [e]; exact List.mem_cons_self, rfl⟩
    · rw [if_neg e] at h5; obtain ⟨y, h1, h2⟩ := ih h5; exact ⟨y, by simp [h1], h2⟩
theorem lall_mem {α : Type} {f : α → Bool} {l : List α} (h : lall f l = true) : ∀ x ∈ l, f x = true := by rw [lall_iff] at h; exact h
theorem rnm_lt {n0 : Nat} {l : List (Nat × Nat)} {i : Nat} (h : i < n0) : rnm n0 l i = some i := by
  unfold rnm
  have : Nat.blt i n0 = true := by simp [Nat.blt_eq, h]
  rw [this]
theorem rnm_ge {n0 : Nat} {l : List (Nat × Nat)} {i j : Nat} (h : ¬ i < n0) (e : rnm n0 l i = some j) : (i, j) ∈ l := by
  unfold rnm at e
  have : Nat.blt i n0 = false := by
    cases hb : Nat.blt i n0 with
    | false => rfl
    | true => exact absurd (by simpa [Nat.blt_eq] using hb) h
  rw [this] at e
  clear this
  induction l with
  | nil => cases e
  | cons p l ih =>
    have e : (Bool.rec (List.rec none (fun p _ ih => Bool.rec ih (some p.2) (Nat.beq i p.1)) l) (some p.2) (Nat.beq i p.1) : Option Nat) = some j := e
    cases hb : Nat.beq i p.1 with
    | true => rw [hb] at e; rw [beqIff.1 hb]; cases e; exact List.mem_cons_self
    | false => rw [hb] at e; exact List.mem_cons_of_mem _ (ih e)
theorem vals_inj : ∀ {l : List (Nat × Nat)}, valsB l = true → ∀ i i' j, (i, j) ∈ l → (i', j) ∈ l → i = i' := by
  intro l
  induction l with
  | nil => intro _ i i' j h; cases h
  | cons p l ih =>
    intro h i i' j h1 h2
    have h : (valsB l && lall (fun q => bnot (Nat.beq q.2 p.2)) l) = true := h
    rw [Bool.and_eq_true] at h
    have hn : ∀ k, (k, p.2) ∉ l := fun k hk => by
      have := lall_mem h.2 _ hk
      simp [bnot_eq, beqIff] at this
    rcases List.mem_cons.1 h1 with e1 | m1 <;> rcases List.mem_cons.1 h2 with e2 | m2
    · rw [← e1] at e2; cases e2; rfl
    · have hj : j = p.2 := by rw [← e1]
      rw [hj] at m2; exact absurd m2 (hn _)
    · have hj : j = p.2 := by rw [← e2]
      rw [hj] at m1; exact absurd m1 (hn _)
    · exact ih h.1 _ _ _ m1 m2
theorem slotsW_mem {r : Nat → Option Nat} {s : St} : ∀ {l : List (Nat × Value)}, slotsW r s l → ∀ t v, (t, v) ∈ l → ∃ u, s.F.get t = some u ∧ wv r 5 v u := by
  intro l
  induction l with
  | nil => intro _ t v h; cases h
  | cons p l ih =>
    intro h t v hm
    have h : cpo (s.F.get p.1) (fun u => wv r 5 p.2 u) ∧ slotsW r s l := h
    rcases List.mem_cons.1 hm with e | hm
    · subst e; exact cpo_iff.1 h.1
    · exact ih h.2 t v hm
theorem rowsW_mem {r : Nat → Option Nat} {H : T AO} : ∀ {l : List (Nat × PO)}, rowsW r H l → ∀ i q, (i, q) ∈ l → ∀ j, r i = some j → ∃ o', H.get j = some o' ∧ wpo r q o' := by
  intro l
  induction l with
  | nil => intro _ i q h; cases h
  | cons p l ih =>
    intro h i q hm j hj
    have h : (Option.rec (flatP p.2) (fun j => cpo (H.get j) fun o' => wpo r p.2 o') (r p.1) : Prop) ∧ rowsW r H l := h
    rcases List.mem_cons.1 hm with e | hm
    · subst e
      simp only [hj] at h
      exact cpo_iff.1 h.1
    · exact ih h.2 i q hm j hj
theorem rowsW_none {r : Nat → Option Nat} {H : T AO} : ∀ {l : List (Nat × PO)}, rowsW r H l → ∀ i q, (i, q) ∈ l → r i = none → flatP q := by
  intro l
  induction l with
  | nil => intro _ i q h; cases h
  | cons p l ih =>
    intro h i q hm hj
    have h : (Option.rec (flatP p.2) (fun j => cpo (H.get j) fun o' => wpo r p.2 o') (r p.1) : Prop) ∧ rowsW r H l := h
    rcases List.mem_cons.1 hm with e | hm
    · subst e
      simp only [hj] at h
      exact h.1
    · exact ih h.2 i q hm hj
theorem flatL_vr {σr : Sg} {c xs : List Value} (h : FlatL c) (k : VRL σ c xs) : VRL σr c xs := by
  induction c generalizing xs with
  | nil => cases k; exact .nil
  | cons v c ih =>
    cases k with
    | cons a b =>
      refine .cons ?_ (ih (fun x hx => h x (List.mem_cons_of_mem _ hx)) b)
      have hv := h v List.mem_cons_self
      unfold ftag at hv
      rw [Bool.or_eq_true] at hv
      rcases hv with hv | hv
      · cases a with
        | flat f => exact .flat f
        | sym s b => exact .sym s (by rw [b.of_flat hv]; exact .flat hv)
        | any e => exact .any e
        | emp => cases hv
        | ext e => exact .ext e
        | exl e => exact .exl e
        | mnil => cases hv
        | mn => cases hv
        | ptr => cases hv
        | slice => cases hv
        | map => cases hv
        | func => cases hv
        | agg => cases hv
        | tuple => cases hv
        | iface hlt b =>
          rename_i t u u'
          have h1 : Nat.beq t SYM = false := by cases hb : Nat.beq t SYM with
            | false => rfl
            | true => rw [beqIff.1 hb] at hlt; exact absurd hlt noSYM
          have : usym (.iface t u) = .iface t u := by simp only [usym, h1]
          rw [this] at hv; cases hv
      · unfold isUnk at hv
        split at hv
        · rename_i t
          rw [beqIff] at hv; subst hv
          cases a with
          | flat f => cases f
          | any e => exact .any e
          | iface hlt _ => exact absurd hlt noUNK
        · rename_i t x _
          obtain ⟨rfl, hs⟩ := a.ext_inv hv
          exact .mkX hv hs
        · cases hv
theorem wmd_ok {m m' : Md} {c : List Value} (h : wmd m m' c) : (m.writes = true → m'.writes = true) ∧ (m.roomy = false → m'.roomy = false) ∧ (∀ k, m = .grown k → m' = .grown k ∨ (m' = .own ∧ k = 0 ∧ c = [])) ∧ (m.writes = false ∨ m'.writes = true) := by
  cases m <;> cases m' <;> first | exact False.elim h | (refine ⟨fun h => ?_, fun h => ?_, fun k hk => ?_, ?_⟩ <;> first | rfl | (cases h; done) | (cases hk; done) | (exact .inl rfl) | (exact .inr rfl) | skip)
  · cases hk; exact .inr ⟨rfl, h.1, h.2⟩
  · cases hk; rename_i a b; have h : _ = b := h; rw [← h]; exact .inl rfl
theorem rowR_weak {σr : Sg} {d : Nat} {c c1 : List Value} {e : TypeId} {m m' : Md} {c' : Array Value} {fz : Nat × Nat} (hm : wmd m m' c1) (hc : ∀ xs, VRL σ c1 xs → VRL σr c xs) (h : RowR P σ d c1 e m' c' fz) : RowR P σr d c e m c' fz := by
  obtain ⟨k1, k2, k3, _⟩ := wmd_ok hm
  obtain ⟨cs, x, e1, e2, e3⟩ := h.cells
  exact ⟨⟨cs, x, e1, hc cs e2, fun hr => e3 (k2 hr)⟩, fun hr => h.exact_ (k2 hr), fun rc hrc i hi => (by
    rcases k3 rc hrc with e | ⟨rfl, rfl, rfl⟩
    · exact h.cap rc e i hi
    · have e4 := e3 rfl
      cases e2
      subst e4
      have e5 := h.exact_ rfl
      subst e5
      have e6 := congrArg List.length e1
      simpa using e6), fun hw => h.free (k1 hw)⟩
theorem frontL_app : ∀ (c c' : List Value), ∃ t, c' = frontL c c' ++ t := by
  intro c
  induction c with
  | nil => exact fun c' => ⟨c', rfl⟩
  | cons x c ih =>
    intro c'
    cases c' with
    | nil => exact ⟨[], rfl⟩
    | cons y l => obtain ⟨t, ht⟩ := ih l; exact ⟨t, congrArg (y :: ·) ht⟩
theorem vrl_split {c t : List Value} : ∀ {xs : List Value}, VRL σ (c ++ t) xs → ∃ u v, xs = u ++ v ∧ VRL σ c u := by
  induction c with
  | nil => exact fun {xs} _ => ⟨[], xs, rfl, .nil⟩
  | cons y c ih =>
    intro xs h
    cases h with
    | cons a b => obtain ⟨u, v, rfl, h⟩ := ih b; exact ⟨_, v, rfl, .cons a h⟩
theorem rowR_front {σr : Sg} {d : Nat} {c c1 t : List Value} {e : TypeId} {m m' : Md} {c' : Array Value} {fz : Nat × Nat} (hroom : m.roomy = true) (hm : wmd m m' (c1 ++ t)) (hc : ∀ xs, VRL σ c1 xs → VRL σr c xs) (h : RowR P σ d (c1 ++ t) e m' c' fz) : RowR P σr d c e m c' fz := by
  obtain ⟨k1, k2, k3, _⟩ := wmd_ok hm
  obtain ⟨cs, x, e1, e2, e3⟩ := h.cells
  obtain ⟨u, v, rfl, e4⟩ := vrl_split e2
  refine ⟨⟨u, v ++ x, by rw [e1, List.append_assoc], hc u e4, fun hr => by rw [hroom] at hr; cases hr⟩, fun hr => by (rw [hroom] at hr; cases hr), fun rc hrc i hi => ?_, fun hw => h.free (k1 hw)⟩
  rcases k3 rc hrc with e | ⟨rfl, rfl, e5⟩
  · exact h.cap rc e i hi
  · rw [e5] at e2
    have e6 := e3 rfl
    subst e6
    have e7 : u ++ v = [] := by generalize u ++ v = q at e2; cases e2; rfl
    have e8 := h.exact_ rfl
    subst e8
    have e9 := congrArg List.length e1
    rw [e7] at e9
    simpa using e9
theorem rowM_weak {σr : Sg} {d : Nat} {c c1 : List Value} {e : TypeId} {m m' : Md} {c' : Array Value} {fz : Nat × Nat} (hm : wmd m m' c1) (hc : ∀ xs, VRL σ (frontM m c c1) xs → VRL σr c xs) (h : RowR P σ d c1 e m' c' fz) : RowR P σr d c e m c' fz := by
  have front : m.roomy = true → (∀ xs, VRL σ (frontL c c1) xs → VRL σr c xs) → RowR P σr d c e m c' fz := fun hroom hc => by
    obtain ⟨t, ht⟩ := frontL_app c c1
    rw [ht] at hm h
    exact rowR_front hroom hm hc h
  cases m with
  | grown => exact front rfl hc
  | gro => exact front rfl hc
  | _ => exact rowR_weak hm hc h
theorem weL_er {r : Nat → Option Nat} {σr : Sg} (hr : Ren r σ σr) : ∀ {l m l' : List MapEntry}, weL (wv r 5) l m → ER σ m l' → ER σr l l' := by
  intro l
  induction l with
  | nil => intro m l' h k; cases m with
    | nil => cases k; exact .nil
    | cons => exact False.elim h
  | cons x l ih =>
    intro m l' h k
    cases m with
    | nil => exact False.elim h
    | cons y m =>
      have h : cpb (veq6 x.key y.key) (cpb (flat x.key) (cpb (Nat.beq x.born y.born) (wv r 5 x.val y.val ∧ weL (wv r 5) l m))) := h
      rw [cpb_iff, cpb_iff, cpb_iff, beqIff] at h
      obtain ⟨h1, h2, h3, h4, h5⟩ := h
      have h1 := veq6_eq h1
      cases k with
      | cons a b c d e => exact .cons (a.trans h1.symm) h2 (wv_vr hr 5 _ _ _ h4 c) (d.trans h3.symm) (ih h5 e)
theorem wo_or {r : Nat → Option Nat} {σr : Sg} (hr : Ren r σ σr) {d : Nat} {o o' : AO} {x : Obj} (h : wo r o o') (hl : live o = true) (k : OR P σ d o' x) : OR P σr d o x ∧ (mayW o = true → mayW o' = true) ∧ live o' = true := by
  cases o with
  | dead => cases hl
  | row c e m =>
    cases o' <;> try exact False.elim h
    rename_i c' e' m'
    have h : cpb (Nat.beq e e') (wmd m m' c' ∧ wvL (wv r 5) c (frontM m c c')) := h
    rw [cpb_iff, beqIff] at h
    obtain ⟨rfl, hm, hc⟩ := h
    cases x with
    | cells cs ty fz =>
      obtain ⟨k1, k2⟩ := k
      refine ⟨⟨?_, rowM_weak hm (fun xs hx => wvL_vr (r := r) (fun v u v' => wv_vr hr 5 v u v') hc hx) k2⟩, (wmd_ok hm).1, rfl⟩
      rcases (wmd_ok hm).2.2.2 with e1 | e1
      · exact .inl e1
      · exact .inr (k1.resolve_left (by rw [e1]; exact Bool.noConfusion))
    | _ => exact k.elim
  | map es k0 =>
    cases o' <;> try exact False.elim h
    rename_i es' k0'
    have h : k0 = k0' ∧ weL (wv r 5) es es' := h
    cases x with
    | map ms mk => obtain ⟨k1, k2⟩ := k; exact ⟨⟨k1.trans h.1.symm, weL_er hr h.2 k2⟩, fun _ => rfl, rfl⟩
    | _ => exact k.elim
theorem wpo_or {r : Nat → Option Nat} {σr : Sg} (hr : Ren r σ σr) {d : Nat} {q : PO} {o' : AO} {x : Obj} (h : wpo r q o') (hl : live q.ao = true) (k : OR P σ d o' x) : OR P σr d q.ao x ∧ (mayW q.ao = true → mayW o' = true) ∧ live o' = true := by
  cases q with
  | p o => exact wo_or hr h hl k
  | f c e m =>
    cases o' <;> try exact False.elim h
    rename_i c' e' m'
    have h : cpb (Nat.beq e e') (wmd m m' c' ∧ FlatL c ∧ c = c') := h
    rw [cpb_iff, beqIff] at h
    obtain ⟨rfl, hm, hf, rfl⟩ := h
    cases x with
    | cells cs ty fz =>
      obtain ⟨k1, k2⟩ := k
      refine ⟨⟨?_, rowR_weak hm (fun xs hx => flatL_vr hf hx) k2⟩, (wmd_ok hm).1, rfl⟩
      rcases (wmd_ok hm).2.2.2 with e1 | e1
      · exact .inl e1
      · exact .inr (k1.resolve_left (by rw [e1]; exact Bool.noConfusion))
    | _ => exact k.elim
theorem wpo_mayW {r : Nat → Option Nat} {q : PO} {o' : AO} (h : wpo r q o') (hl : live q.ao = true) : (mayW q.ao = true → mayW o' = true) ∧ live o' = true := by
  cases q with
  | p o =>
    cases o with
    | dead => cases hl
    | row c e m =>
      cases o' <;> try exact False.elim h
      have h : cpb _ (wmd m _ _ ∧ _) := h
      rw [cpb_iff] at h
      exact ⟨(wmd_ok h.2.1).1, rfl⟩
    | map => cases o' <;> first | exact False.elim h | exact ⟨fun _ => rfl, rfl⟩
  | f c e m =>
    cases o' <;> try exact False.elim h
    have h : cpb _ (wmd m _ _ ∧ _) := h
    rw [cpb_iff] at h
    exact ⟨(wmd_ok h.2.1).1, rfl⟩
theorem okMS_some {ng n0 : Nat} {l : List (Nat × Nat)} {m : MS} (h : okMS ng n0 l m = true) : ng ≤ n0 ∧ n0 ≤ m.next ∧ (∀ i q, (i, q) ∈ m.R → i < m.next) ∧ (∀ i j, (i, j) ∈ l → n0 ≤ i ∧ i < m.next ∧ n0 ≤ j) ∧ valsB l = true := by
  unfold okMS at h
  simp only [Bool.and_eq_true, bleIff] at h
  obtain ⟨h1, h2, h3, h4, h5⟩ := h
  refine ⟨h1, h2, fun i q hm => ?_, fun i j hm => ?_, h5⟩
  · have := lall_mem h3 _ hm; simpa [Nat.blt_eq] using this
  · have := lall_mem h4 _ hm
    simp only [Bool.and_eq_true, bleIff, Nat.blt_eq] at this
    exact this
theorem rnm_inj {n0 : Nat} {l : List (Nat × Nat)} {m : MS} {ng : Nat} (h : okMS ng n0 l m = true) {i i' j : Nat} (h1 : rnm n0 l i = some j) (h2 : rnm n0 l i' = some j) : i = i' := by
  obtain ⟨_, _, _, k, kv⟩ := okMS_some h
  by_cases a : i < n0 <;> by_cases b : i' < n0
  · rw [rnm_lt a] at h1; rw [rnm_lt b] at h2; cases h1; cases h2; rfl
  · rw [rnm_lt a] at h1; cases h1; have := k _ _ (rnm_ge b h2); omega
  · rw [rnm_lt b] at h2; cases h2; have := k _ _ (rnm_ge a h1); omega
  · exact vals_inj kv _ _ _ (rnm_ge a h1) (rnm_ge b h2)
def sgOf (σ : Sg) (r : Nat → Option Nat) : Sg := fun i => (r i).bind σ
theorem ren_sgOf (r : Nat → Option Nat) : Ren r σ (sgOf σ r) := fun i j h => by simp [sgOf, h]
theorem sgOf_some {r : Nat → Option Nat} {i : Nat} {p : Nat × Nat} (h : sgOf σ r i = some p) : ∃ j, r i = some j ∧ σ j = some p := by
  unfold sgOf at h
  rwa [Option.bind_eq_some_iff] at h
theorem rel_weak {n0 : Nat} {l : List (Nat × Nat)} {A : AW} {R : List (Nat × PO)} {next : Nat} (hok : okMS P.globals.size n0 l ⟨[], R, next⟩ = true) (hr : rowsW (rnm n0 l) A.heap R) (hR : Rel P σ A w) : Rel P (sgOf σ (rnm n0 l)) (mem R next) w := by
  obtain ⟨k1, k2, k3, k4, k5⟩ := okMS_some hok
  have hren := ren_sgOf (σ := σ) (rnm n0 l)
  refine ⟨⟨fun i b d o hi hg hl => ?_, fun i i' b d d' o o' hi hi' hg hg' hl hl' hw => ?_, fun i hi => ?_, fun g hg => ?_, fun i hi => ?_⟩, fun b x e => ⟨(hR.fro b x e).1, ?_⟩⟩
  case' refine_6 =>
    rintro ⟨i, d, o, hi, hg, hm⟩
    obtain ⟨j, hj, hs⟩ := sgOf_some hi
    obtain ⟨q, hq, rfl⟩ := tput_get hg
    obtain ⟨o', e2, e3⟩ := rowsW_mem hr i q hq j hj
    exact (hR.fro b x e).2 ⟨j, d, o', hs, e2, (wpo_mayW e3 (live_of_mayW hm)).1 hm⟩
  · obtain ⟨j, hj, hs⟩ := sgOf_some hi
    obtain ⟨q, hq, rfl⟩ := tput_get hg
    obtain ⟨o', e2, e3⟩ := rowsW_mem hr i q hq j hj
    obtain ⟨x, hx, hor⟩ := hR.obj j b d o' hs e2 (wpo_mayW e3 hl).2
    exact ⟨x, hx, (wpo_or hren e3 hl hor).1⟩
  · obtain ⟨j, hj, hs⟩ := sgOf_some hi
    obtain ⟨j2, hj2, hs2⟩ := sgOf_some hi'
    obtain ⟨q, hq, rfl⟩ := tput_get hg
    obtain ⟨q', hq', rfl⟩ := tput_get hg'
    obtain ⟨o1, e2, e3⟩ := rowsW_mem hr i q hq j hj
    obtain ⟨o2, f2, f3⟩ := rowsW_mem hr i' q' hq' j2 hj2
    have hw2 : (mayW o1 || mayW o2) = true := by
      rw [Bool.or_eq_true] at hw ⊢
      exact hw.imp (wpo_mayW e3 hl).1 (wpo_mayW f3 hl').1
    obtain rfl := hR.inj j j2 b d d' o1 o2 hs hs2 e2 f2 (wpo_mayW e3 hl).2 (wpo_mayW f3 hl').2 hw2
    exact rnm_inj hok hj hj2
  · have hi : next ≤ i := hi
    cases hh : sgOf σ (rnm n0 l) i with
    | none => rfl
    | some p =>
      obtain ⟨j, hj, _⟩ := sgOf_some hh
      have k2 : n0 ≤ next := k2
      have := (k4 i j (rnm_ge (by omega) hj)).2.1
      have this : i < next := this
      omega
  · show (rnm n0 l g).bind σ = _
    rw [rnm_lt (by omega)]; exact hR.glob g hg
  · have hi : next ≤ i := hi
    cases hh : (mem R next).heap.get i with
    | none => rfl
    | some o =>
      obtain ⟨q, hq, _⟩ := tput_get hh
      have : i < next := k3 i q hq
      omega
theorem step_weak {σ0 : Sg} {A0 : AW} {w0 : World} {n0 : Nat} {l : List (Nat × Nat)} {A : AW} {R : List (Nat × PO)} {next : Nat} (hn : A0.next = n0) (hok : okMS P.globals.size n0 l ⟨[], R, next⟩ = true) (hr : rowsW (rnm n0 l) A.heap R) (hS : Step σ0 A0 w0 σ A w) : Step σ0 A0 w0 (sgOf σ (rnm n0 l)) (mem R next) w := by
  subst hn
  obtain ⟨k1, k2, k3, k4, k5⟩ := okMS_some hok
  refine ⟨fun i hi => ?_, k2, hS.os, hS.tape, hS.output, hS.size, hS.block, ?_, ?_, ?_⟩
  · show (rnm _ l i).bind σ = _
    rw [rnm_lt hi]; exact hS.ext i hi
  · rintro b hb ⟨i, d, o, hi, hg, hm⟩
    obtain ⟨j, hj, hs⟩ := sgOf_some hi
    obtain ⟨q, hq, rfl⟩ := tput_get hg
    obtain ⟨o', e2, e3⟩ := rowsW_mem hr i q hq j hj
    exact hS.wr b hb ⟨j, d, o', hs, e2, (wpo_mayW e3 (live_of_mayW hm)).1 hm⟩
  · intro i b d o hi hs hg hl hb
    obtain ⟨j, hj, hs⟩ := sgOf_some hs
    obtain ⟨q, hq, rfl⟩ := tput_get hg
    obtain ⟨o', e2, e3⟩ := rowsW_mem hr i q hq j hj
    have hj2 := (k4 i j (rnm_ge (by omega) hj)).2.2
    exact hS.new j b d o' hj2 hs e2 (wpo_mayW e3 hl).2 hb
  · intro i o hi hg hl
    obtain ⟨q, hq, rfl⟩ := tput_get hg
    obtain ⟨o', e2, e3⟩ := rowsW_mem hr i q hq i (rnm_lt hi)
    exact hS.old i o' hi e2 (wpo_mayW e3 hl).2
theorem okMS_mem {ng n0 : Nat} {l : List (Nat × Nat)} {m : MS} (h : okMS ng n0 l m = true) : okMS ng n0 l ⟨[], m.R, m.next⟩ = true := h
theorem weak_ok {N n0 : Nat} {l : List (Nat × Nat)} {s : St} {m : MS} {σ0 : Sg} {A0 : AW} {w0 : World} {a : Act} (h : Weak P n0 l s m) (hn : A0.next = n0) (hS : SR P N σ s a w) (hst : Step σ0 A0 w0 σ s.A w) :
    ∃ σr, SR P N σr m.st a w ∧ Step σ0 A0 w0 σr m.st.A w := by
  unfold Weak at h
  rw [cpb_iff] at h
  obtain ⟨hok, h1, h2, h3⟩ := h
  have hok := okMS_mem hok
  refine ⟨sgOf σ (rnm n0 l), ⟨⟨hS.fr.size, fun t v hv => ?_⟩, rel_weak hok h2 hS.rel, ?_⟩, step_weak hn hok h2 hst⟩
  · obtain ⟨v2, hm, rfl⟩ := tput_get hv
    obtain ⟨u, e1, e2⟩ := slotsW_mem h1 t _ hm
    obtain ⟨v', f1, f2⟩ := hS.fr.get t u e1
    exact ⟨v', f1, wv_vr (ren_sgOf _) 5 _ _ _ e2 f2⟩
  · have hd := hS.ds
    unfold dsW at h3
    split at h3
    · rename_i e
      rw [e] at hd
      generalize a.defers = q at hd
      cases hd; exact .nil
    · exact h3.elim
end Go.Ev
