/- The evaluator with variables: states by their parts; a state seen as another one. -/
import Derived.Test.YthokbbichifohaaGreatDoorEv4
set_option linter.unusedSectionVars false
namespace Go.Ev
variable {P : Program} {σ : Sg} {w : World} [Frozen P]
noncomputable section
inductive PO where
  | p (o : AO)
  | f (c : List Value) (e : TypeId) (m : Md)
def PO.ao : PO → AO
  | .p o => o
  | .f c e m => .row c e m
def tput {α β : Type} (g : β → α) (l : List (Nat × β)) : T α := List.rec .e (fun p _ ih => T.set ih p.1 (g p.2)) l
structure MS where
  F : List (Nat × Value)
  R : List (Nat × PO)
  next : Nat
def mem (R : List (Nat × PO)) (next : Nat) : AW := ⟨tput PO.ao R, next⟩
def MS.st (m : MS) : St := ⟨tput id m.F, mem m.R m.next, []⟩
def wmd (m m' : Md) (c : List Value) : Prop := match m with
  | .own => match m' with
    | .own => True
    | _ => False
  | .ro => match m' with
    | .own | .ro => True
    | _ => False
  | .gro => True
  | .grown k => match m' with
    | .grown k' => k = k'
    | .own => k = 0 ∧ c = []
    | _ => False
def weL (f : Value → Value → Prop) (l : List MapEntry) : List MapEntry → Prop := List.rec (motive := fun _ => List MapEntry → Prop) (fun m => match m with
    | [] => True
    | _ => False)
  (fun x _ ih m => match m with
    | [] => False
    | y :: m => cpb (veq6 x.key y.key) (cpb (flat x.key) (cpb (Nat.beq x.born y.born) (f x.val y.val ∧ ih m)))) l
def wo (r : Nat → Option Nat) (o o' : AO) : Prop := match o with
  | .row c e m => match o' with
    | .row c' e' m' => cpb (Nat.beq e e') (wmd m m' c' ∧ wvL (wv r 5) c c')
    | _ => False
  | .map es k => match o' with
    | .map es' k' => k = k' ∧ weL (wv r 5) es es'
    | _ => False
  | .dead => True
def isUnk : Value → Bool
  | .iface t .nilIface => Nat.beq t UNK
  | .iface t _ => Nat.beq t EXT
  | _ => false
def ftag (v : Value) : Bool := flat (usym v) || isUnk v
def FlatL (c : List Value) : Prop := ∀ v ∈ c, ftag v = true
def wpo (r : Nat → Option Nat) (q : PO) (o' : AO) : Prop := match q with
  | .p o => wo r o o'
  | .f c e m => match o' with
    | .row c' e' m' => cpb (Nat.beq e e') (wmd m m' c' ∧ FlatL c ∧ c = c')
    | _ => False
def valsB (l : List (Nat × Nat)) : Bool := List.rec true (fun p l ih => ih && lall (fun q => bnot (Nat.beq q.2 p.2)) l) l
def okMS (ng n0 : Nat) (l : List (Nat × Nat)) (m : MS) : Bool := Nat.ble ng n0 && (Nat.ble n0 m.next && (lall (fun p => Nat.blt p.1 m.next) m.R && (lall (fun p => Nat.ble n0 p.1 && (Nat.blt p.1 m.next && Nat.ble n0 p.2)) l && valsB l)))
def slotsW (r : Nat → Option Nat) (s : St) (l : List (Nat × Value)) : Prop := List.rec True (fun p _ ih => cpo (s.F.get p.1) (fun u => wv r 5 p.2 u) ∧ ih) l
def flatP : PO → Prop
  | .f c _ _ => FlatL c ∧ True
  | .p _ => True
def rowsW (r : Nat → Option Nat) (H : T AO) (l : List (Nat × PO)) : Prop := List.rec True (fun p _ ih => Option.rec (flatP p.2) (fun j => cpo (H.get j) fun o' => wpo r p.2 o') (r p.1) ∧ ih) l
def dsW (ds : List Deferred) : Prop := match ds with
  | [] => True
  | _ => False
def Weak (P : Program) [Frozen P] (n0 : Nat) (l : List (Nat × Nat)) (s : St) (m : MS) : Prop := cpb (okMS P.globals.size n0 l m) (slotsW (rnm n0 l) s m.F ∧ rowsW (rnm n0 l) s.A.heap m.R ∧ dsW s.ds)
end
theorem tput_get {α β : Type} {g : β → α} {l : List (Nat × β)} {i : Nat} {x : α} (h : (tput g l).get i = some x) : ∃ y, (i, y) ∈ l ∧ x = g y := by
  induction l with
  | nil => cases h
  | cons p l ih =>
    have h5 : (T.set (tput g l) p.1 (g p.2)).get i = some x := h
    clear h
    rw [get_set] at h5
    by_cases e : i = p.1
    · rw [if_pos e] at h5; cases h5; exact ⟨p.2, by rw [e]; exact List.mem_cons_self, rfl⟩
    · rw [if_neg e] at h5; obtain ⟨y, h1, h2⟩ := ih h5; exact ⟨y, by simp [h1], h2⟩
theorem lall_mem {α : Type} {f : α → Bool} {l : List α} (h : lall f l = true) : ∀ x ∈ l, f x = true := by rw [lall_iff] at h; exact h
theorem rnm_lt {n0 : Nat} {l : List (Nat × Nat)} {i : Nat} (h : i < n0) : rnm n0 l i = some i := by
  unfold rnm
  have : Nat.blt i n0 = true := by simp [Nat.blt_eq, h]
  rw [this]
theorem rnm_ge {n0 : Nat} {l : List (Nat × Nat)} {i j : Nat} (h : ¬ i < n0) (e : rnm n0 l i = some j) : (i, j) ∈ l := by
  unfold rnm at e
  have : Nat.blt i n0 = false := by
    cases hb : Nat.blt i n0 with
    | false => rfl
    | true => exact absurd (by simpa [Nat.blt_eq] using hb) h
  rw [this] at e
  clear this
  induction l with
  | nil => cases e
  | cons p l ih =>
    have e : (Bool.rec (List.rec none (fun p _ ih => Bool.rec ih (some p.2) (Nat.beq i p.1)) l) (some p.2) (Nat.beq i p.1) : Option Nat) = some j := e
    cases hb : Nat.beq i p.1 with
    | true => rw [hb] at e; rw [beqIff.1 hb]; cases e; exact List.mem_cons_self
    | false => rw [hb] at e; exact List.mem_cons_of_mem _ (ih e)
theorem vals_inj : ∀ {l : List (Nat × Nat)}, valsB l = true → ∀ i i' j, (i, j) ∈ l → (i', j) ∈ l → i = i' := by
  intro l
  induction l with
  | nil => intro _ i i' j h; cases h
  | cons p l ih =>
    intro h i i' j h1 h2
    have h : (valsB l && lall (fun q => bnot (Nat.beq q.2 p.2)) l) = true := h
    rw [Bool.and_eq_true] at h
    have hn : ∀ k, (k, p.2) ∉ l := fun k hk => by
      have := lall_mem h.2 _ hk
      simp [bnot_eq, beqIff] at this
    rcases List.mem_cons.1 h1 with e1 | m1 <;> rcases List.mem_cons.1 h2 with e2 | m2
    · rw [← e1] at e2; cases e2; rfl
    · have hj : j = p.2 := by rw [← e1]
      rw [hj] at m2; exact absurd m2 (hn _)
    · have hj : j = p.2 := by rw [← e2]
      rw [hj] at m1; exact absurd m1 (hn _)
    · exact ih h.1 _ _ _ m1 m2
theorem slotsW_mem {r : Nat → Option Nat} {s : St} : ∀ {l : List (Nat × Value)}, slotsW r s l → ∀ t v, (t, v) ∈ l → ∃ u, s.F.get t = some u ∧ wv r 5 v u := by
  intro l
  induction l with
  | nil => intro _ t v h; cases h
  | cons p l ih =>
    intro h t v hm
    have h : cpo (s.F.get p.1) (fun u => wv r 5 p.2 u) ∧ slotsW r s l := h
    rcases List.mem_cons.1 hm with e | hm
    · subst e; exact cpo_iff.1 h.1
    · exact ih h.2 t v hm
theorem rowsW_mem {r : Nat → Option Nat} {H : T AO} : ∀ {l : List (Nat × PO)}, rowsW r H l → ∀ i q, (i, q) ∈ l → ∀ j, r i = some j → ∃ o', H.get j = some o' ∧ wpo r q o' := by
  intro l
  induction l with
  | nil => intro _ i q h; cases h
  | cons p l ih =>
    intro h i q hm j hj
    have h : (Option.rec (flatP p.2) (fun j => cpo (H.get j) fun o' => wpo r p.2 o') (r p.1) : Prop) ∧ rowsW r H l := h
    rcases List.mem_cons.1 hm with e | hm
    · subst e
      simp only [hj] at h
      exact cpo_iff.1 h.1
    · exact ih h.2 i q hm j hj
theorem rowsW_none {r : Nat → Option Nat} {H : T AO} : ∀ {l : List (Nat × PO)}, rowsW r H l → ∀ i q, (i, q) ∈ l → r i = none → flatP q := by
  intro l
  induction l with
  | nil => intro _ i q h; cases h
  | cons p l ih =>
    intro h i q hm hj
    have h : (Option.rec (flatP p.2) (fun j => cpo (H.get j) fun o' => wpo r p.2 o') (r p.1) : Prop) ∧ rowsW r H l := h
    rcases List.mem_cons.1 hm with e | hm
    · subst e
      simp only [hj] at h
      exact h.1
    · exact ih h.2 i q hm hj
theorem flatL_vr {σr : Sg} {c xs : List Value} (h : FlatL c) (k : VRL σ c xs) : VRL σr c xs := by
  induction c generalizing xs with
  | nil => cases k; exact .nil
  | cons v c ih =>
    cases k with
    | cons a b =>
      refine .cons ?_ (ih (fun x hx => h x (List.mem_cons_of_mem _ hx)) b)
      have hv := h v List.mem_cons_self
      unfold ftag at hv
      rw [Bool.or_eq_true] at hv
      rcases hv with hv | hv
      · cases a with
        | flat f => exact .flat f
        | sym s b => exact .sym s (by rw [b.of_flat hv]; exact .flat hv)
        | any e => exact .any e
        | ext e => exact .ext e
        | mnil => cases hv
        | mn => cases hv
        | ptr => cases hv
        | slice => cases hv
        | map => cases hv
        | func => cases hv
        | agg => cases hv
        | tuple => cases hv
        | iface hlt b =>
          rename_i t u u'
          have h1 : Nat.beq t SYM = false := by cases hb : Nat.beq t SYM with
            | false => rfl
            | true => rw [beqIff.1 hb] at hlt; exact absurd hlt noSYM
          have : usym (.iface t u) = .iface t u := by simp only [usym, h1]
          rw [this] at hv; cases hv
      · unfold isUnk at hv
        split at hv
        · rename_i t
          rw [beqIff] at hv; subst hv
          cases a with
          | flat f => cases f
          | any e => exact .any e
          | iface hlt _ => exact absurd hlt noUNK
        · rename_i t x _
          rw [beqIff] at hv; subst hv
          cases a with
          | flat f => cases f
          | ext e => exact .ext e
          | iface hlt _ => exact absurd hlt noEXT
        · cases hv
theorem wmd_ok {m m' : Md} {c : List Value} (h : wmd m m' c) : (m.writes = true → m'.writes = true) ∧ (m.roomy = false → m'.roomy = false) ∧ (∀ k, m = .grown k → m' = .grown k ∨ (m' = .own ∧ k = 0 ∧ c = [])) ∧ (m.writes = false ∨ m'.writes = true) := by
  cases m <;> cases m' <;> first | exact False.elim h | (refine ⟨fun h => ?_, fun h => ?_, fun k hk => ?_, ?_⟩ <;> first | rfl | (cases h; done) | (cases hk; done) | (exact .inl rfl) | (exact .inr rfl) | skip)
  · cases hk; exact .inr ⟨rfl, h.1, h.2⟩
  · cases hk; rename_i a b; have h : _ = b := h; rw [← h]; exact .inl rfl
theorem rowR_weak {σr : Sg} {d : Nat} {c c1 : List Value} {e : TypeId} {m m' : Md} {c' : Array Value} {fz : Nat × Nat} (hm : wmd m m' c1) (hc : ∀ xs, VRL σ c1 xs → VRL σr c xs) (h : RowR P σ d c1 e m' c' fz) : RowR P σr d c e m c' fz := by
  obtain ⟨k1, k2, k3, _⟩ := wmd_ok hm
  obtain ⟨cs, x, e1, e2, e3⟩ := h.cells
  exact ⟨⟨cs, x, e1, hc cs e2, fun hr => e3 (k2 hr)⟩, fun hr => h.exact_ (k2 hr), fun rc hrc i hi => (by
    rcases k3 rc hrc with e | ⟨rfl, rfl, rfl⟩
    · exact h.cap rc e i hi
    · have e4 := e3 rfl
      cases e2
      subst e4
      have e5 := h.exact_ rfl
      subst e5
      have e6 := congrArg List.length e1
      simpa using e6), fun hw => h.free (k1 hw)⟩
theorem weL_er {r : Nat → Option Nat} {σr : Sg} (hr : Ren r σ σr) : ∀ {l m l' : List MapEntry}, weL (wv r 5) l m → ER σ m l' → ER σr l l' := by
  intro l
  induction l with
  | nil => intro m l' h k; cases m with
    | nil => cases k; exact .nil
    | cons => exact False.elim h
  | cons x l ih =>
    intro m l' h k
    cases m with
    | nil => exact False.elim h
    | cons y m =>
      have h : cpb (veq6 x.key y.key) (cpb (flat x.key) (cpb (Nat.beq x.born y.born) (wv r 5 x.val y.val ∧ weL (wv r 5) l m))) := h
      rw [cpb_iff, cpb_iff, cpb_iff, beqIff] at h
      obtain ⟨h1, h2, h3, h4, h5⟩ := h
      have h1 := veq6_eq h1
      cases k with
      | cons a b c d e => exact .cons (a.trans h1.symm) h2 (wv_vr hr 5 _ _ _ h4 c) (d.trans h3.symm) (ih h5 e)
theorem wo_or {r : Nat → Option Nat} {σr : Sg} (hr : Ren r σ σr) {d : Nat} {o o' : AO} {x : Obj} (h : wo r o o') (hl : live o = true) (k : OR P σ d o' x) : OR P σr d o x ∧ (mayW o = true → mayW o' = true) ∧ live o' = true := by
  cases o with
  | dead => cases hl
  | row c e m =>
    cases o' <;> try exact False.elim h
    rename_i c' e' m'
    have h : cpb (Nat.beq e e') (wmd m m' c' ∧ wvL (wv r 5) c c') := h
    rw [cpb_iff, beqIff] at h
    obtain ⟨rfl, hm, hc⟩ := h
    cases x with
    | cells cs ty fz =>
      obtain ⟨k1, k2⟩ := k
      refine ⟨⟨?_, rowR_weak hm (fun xs hx => wvL_vr (r := r) (fun v u v' => wv_vr hr 5 v u v') hc hx) k2⟩, (wmd_ok hm).1, rfl⟩
      rcases (wmd_ok hm).2.2.2 with e1 | e1
      · exact .inl e1
      · exact .inr (k1.resolve_left (by rw [e1]; exact Bool.noConfusion))
    | _ => exact k.elim
  | map es k0 =>
    cases o' <;> try exact False.elim h
    rename_i es' k0'
    have h : k0 = k0' ∧ weL (wv r 5) es es' := h
    cases x with
    | map ms mk => obtain ⟨k1, k2⟩ := k; exact ⟨⟨k1.trans h.1.symm, weL_er hr h.2 k2⟩, fun _ => rfl, rfl⟩
    | _ => exact k.elim
theorem wpo_or {r : Nat → Option Nat} {σr : Sg} (hr : Ren r σ σr) {d : Nat} {q : PO} {o' : AO} {x : Obj} (h : wpo r q o') (hl : live q.ao = true) (k : OR P σ d o' x) : OR P σr d q.ao x ∧ (mayW q.ao = true → mayW o' = true) ∧ live o' = true := by
  cases q with
  | p o => exact wo_or hr h hl k
  | f c e m =>
    cases o' <;> try exact False.elim h
    rename_i c' e' m'
    have h : cpb (Nat.beq e e') (wmd m m' c' ∧ FlatL c ∧ c = c') := h
    rw [cpb_iff, beqIff] at h
    obtain ⟨rfl, hm, hf, rfl⟩ := h
    cases x with
    | cells cs ty fz =>
      obtain ⟨k1, k2⟩ := k
      refine ⟨⟨?_, rowR_weak hm (fun xs hx => flatL_vr hf hx) k2⟩, (wmd_ok hm).1, rfl⟩
      rcases (wmd_ok hm).2.2.2 with e1 | e1
      · exact .inl e1
      · exact .inr (k1.resolve_left (by rw [e1]; exact Bool.noConfusion))
    | _ => exact k.elim
theorem wpo_mayW {r : Nat → Option Nat} {q : PO} {o' : AO} (h : wpo r q o') (hl : live q.ao = true) : (mayW q.ao = true → mayW o' = true) ∧ live o' = true := by
  cases q with
  | p o =>
    cases o with
    | dead => cases hl
    | row c e m =>
      cases o' <;> try exact False.elim h
      have h : cpb _ (wmd m _ _ ∧ _) := h
      rw [cpb_iff] at h
      exact ⟨(wmd_ok h.2.1).1, rfl⟩
    | map => cases o' <;> first | exact False.elim h | exact ⟨fun _ => rfl, rfl⟩
  | f c e m =>
    cases o' <;> try exact False.elim h
    have h : cpb _ (wmd m _ _ ∧ _) := h
    rw [cpb_iff] at h
    exact ⟨(wmd_ok h.2.1).1, rfl⟩
theorem okMS_some {ng n0 : Nat} {l : List (Nat × Nat)} {m : MS} (h : okMS ng n0 l m = true) : ng ≤ n0 ∧ n0 ≤ m.next ∧ (∀ i q, (i, q) ∈ m.R → i < m.next) ∧ (∀ i j, (i, j) ∈ l → n0 ≤ i ∧ i < m.next ∧ n0 ≤ j) ∧ valsB l = true := by
  unfold okMS at h
  simp only [Bool.and_eq_true, bleIff] at h
  obtain ⟨h1, h2, h3, h4, h5⟩ := h
  refine ⟨h1, h2, fun i q hm => ?_, fun i j hm => ?_, h5⟩
  · have := lall_mem h3 _ hm; simpa [Nat.blt_eq] using this
  · have := lall_mem h4 _ hm
    simp only [Bool.and_eq_true, bleIff, Nat.blt_eq] at this
    exact this
theorem rnm_inj {n0 : Nat} {l : List (Nat × Nat)} {m : MS} {ng : Nat} (h : okMS ng n0 l m = true) {i i' j : Nat} (h1 : rnm n0 l i = some j) (h2 : rnm n0 l i' = some j) : i = i' := by
  obtain ⟨_, _, _, k, kv⟩ := okMS_some h
  by_cases a : i < n0 <;> by_cases b : i' < n0
  · rw [rnm_lt a] at h1; rw [rnm_lt b] at h2; cases h1; cases h2; rfl
  · rw [rnm_lt a] at h1; cases h1; have := k _ _ (rnm_ge b h2); omega
  · rw [rnm_lt b] at h2; cases h2; have := k _ _ (rnm_ge a h1); omega
  · exact vals_inj kv _ _ _ (rnm_ge a h1) (rnm_ge b h2)
def sgOf (σ : Sg) (r : Nat → Option Nat) : Sg := fun i => (r i).bind σ
theorem ren_sgOf (r : Nat → Option Nat) : Ren r σ (sgOf σ r) := fun i j h => by simp [sgOf, h]
theorem sgOf_some {r : Nat → Option Nat} {i : Nat} {p : Nat × Nat} (h : sgOf σ r i = some p) : ∃ j, r i = some j ∧ σ j = some p := by
  unfold sgOf at h
  rwa [Option.bind_eq_some_iff] at h
theorem rel_weak {n0 : Nat} {l : List (Nat × Nat)} {A : AW} {R : List (Nat × PO)} {next : Nat} (hok : okMS P.globals.size n0 l ⟨[], R, next⟩ = true) (hr : rowsW (rnm n0 l) A.heap R) (hR : Rel P σ A w) : Rel P (sgOf σ (rnm n0 l)) (mem R next) w := by
  obtain ⟨k1, k2, k3, k4, k5⟩ := okMS_some hok
  have hren := ren_sgOf (σ := σ) (rnm n0 l)
  refine ⟨⟨fun i b d o hi hg hl => ?_, fun i i' b d d' o o' hi hi' hg hg' hl hl' hw => ?_, fun i hi => ?_, fun g hg => ?_, fun i hi => ?_⟩, fun b x e => ⟨(hR.fro b x e).1, ?_⟩⟩
  case' refine_6 =>
    rintro ⟨i, d, o, hi, hg, hm⟩
    obtain ⟨j, hj, hs⟩ := sgOf_some hi
    obtain ⟨q, hq, rfl⟩ := tput_get hg
    obtain ⟨o', e2, e3⟩ := rowsW_mem hr i q hq j hj
    exact (hR.fro b x e).2 ⟨j, d, o', hs, e2, (wpo_mayW e3 (live_of_mayW hm)).1 hm⟩
  · obtain ⟨j, hj, hs⟩ := sgOf_some hi
    obtain ⟨q, hq, rfl⟩ := tput_get hg
    obtain ⟨o', e2, e3⟩ := rowsW_mem hr i q hq j hj
    obtain ⟨x, hx, hor⟩ := hR.obj j b d o' hs e2 (wpo_mayW e3 hl).2
    exact ⟨x, hx, (wpo_or hren e3 hl hor).1⟩
  · obtain ⟨j, hj, hs⟩ := sgOf_some hi
    obtain ⟨j2, hj2, hs2⟩ := sgOf_some hi'
    obtain ⟨q, hq, rfl⟩ := tput_get hg
    obtain ⟨q', hq', rfl⟩ := tput_get hg'
    obtain ⟨o1, e2, e3⟩ := rowsW_mem hr i q hq j hj
    obtain ⟨o2, f2, f3⟩ := rowsW_mem hr i' q' hq' j2 hj2
    have hw2 : (mayW o1 || mayW o2) = true := by
      rw [Bool.or_eq_true] at hw ⊢
      exact hw.imp (wpo_mayW e3 hl).1 (wpo_mayW f3 hl').1
    obtain rfl := hR.inj j j2 b d d' o1 o2 hs hs2 e2 f2 (wpo_mayW e3 hl).2 (wpo_mayW f3 hl').2 hw2
    exact rnm_inj hok hj hj2
  · have hi : next ≤ i := hi
    cases hh : sgOf σ (rnm n0 l) i with
    | none => rfl
    | some p =>
      obtain ⟨j, hj, _⟩ := sgOf_some hh
      have k2 : n0 ≤ next := k2
      have := (k4 i j (rnm_ge (by omega) hj)).2.1
      have this : i < next := this
      omega
  · show (rnm n0 l g).bind σ = _
    rw [rnm_lt (by omega)]; exact hR.glob g hg
  · have hi : next ≤ i := hi
    cases hh : (mem R next).heap.get i with
    | none => rfl
    | some o =>
      obtain ⟨q, hq, _⟩ := tput_get hh
      have : i < next := k3 i q hq
      omega
theorem step_weak {σ0 : Sg} {A0 : AW} {w0 : World} {n0 : Nat} {l : List (Nat × Nat)} {A : AW} {R : List (Nat × PO)} {next : Nat} (hn : A0.next = n0) (hok : okMS P.globals.size n0 l ⟨[], R, next⟩ = true) (hr : rowsW (rnm n0 l) A.heap R) (hS : Step σ0 A0 w0 σ A w) : Step σ0 A0 w0 (sgOf σ (rnm n0 l)) (mem R next) w := by
  subst hn
  obtain ⟨k1, k2, k3, k4, k5⟩ := okMS_some hok
  refine ⟨fun i hi => ?_, k2, hS.os, hS.tape, hS.output, hS.size, hS.block, ?_, ?_, ?_⟩
  · show (rnm _ l i).bind σ = _
    rw [rnm_lt hi]; exact hS.ext i hi
  · rintro b hb ⟨i, d, o, hi, hg, hm⟩
    obtain ⟨j, hj, hs⟩ := sgOf_some hi
    obtain ⟨q, hq, rfl⟩ := tput_get hg
    obtain ⟨o', e2, e3⟩ := rowsW_mem hr i q hq j hj
    exact hS.wr b hb ⟨j, d, o', hs, e2, (wpo_mayW e3 (live_of_mayW hm)).1 hm⟩
  · intro i b d o hi hs hg hl hb
    obtain ⟨j, hj, hs⟩ := sgOf_some hs
    obtain ⟨q, hq, rfl⟩ := tput_get hg
    obtain ⟨o', e2, e3⟩ := rowsW_mem hr i q hq j hj
    have hj2 := (k4 i j (rnm_ge (by omega) hj)).2.2
    exact hS.new j b d o' hj2 hs e2 (wpo_mayW e3 hl).2 hb
  · intro i o hi hg hl
    obtain ⟨q, hq, rfl⟩ := tput_get hg
    obtain ⟨o', e2, e3⟩ := rowsW_mem hr i q hq i (rnm_lt hi)
    exact hS.old i o' hi e2 (wpo_mayW e3 hl).2
theorem okMS_mem {ng n0 : Nat} {l : List (Nat × Nat)} {m : MS} (h : okMS ng n0 l m = true) : okMS ng n0 l ⟨[], m.R, m.next⟩ = true := h
theorem weak_ok {N n0 : Nat} {l : List (Nat × Nat)} {s : St} {m : MS} {σ0 : Sg} {A0 : AW} {w0 : World} {a : Act} (h : Weak P n0 l s m) (hn : A0.next = n0) (hS : SR P N σ s a w) (hst : Step σ0 A0 w0 σ s.A w) :
    ∃ σr, SR P N σr m.st a w ∧ Step σ0 A0 w0 σr m.st.A w := by
  unfold Weak at h
  rw [cpb_iff] at h
  obtain ⟨hok, h1, h2, h3⟩ := h
  have hok := okMS_mem hok
  refine ⟨sgOf σ (rnm n0 l), ⟨⟨hS.fr.size, fun t v hv => ?_⟩, rel_weak hok h2 hS.rel, ?_⟩, step_weak hn hok h2 hst⟩
  · obtain ⟨v2, hm, rfl⟩ := tput_get hv
    obtain ⟨u, e1, e2⟩ := slotsW_mem h1 t _ hm
    obtain ⟨v', f1, f2⟩ := hS.fr.get t u e1
    exact ⟨v', f1, wv_vr (ren_sgOf _) 5 _ _ _ e2 f2⟩
  · have hd := hS.ds
    unfold dsW at h3
    split at h3
    · rename_i e
      rw [e] at hd
      generalize a.defers = q at hd
      cases hd; exact .nil
    · exact h3.elim
end Go.Ev

/- The evaluator with variables: a quiet operation has one result; what it looks at. -/
section
set_option linter.unusedSectionVars false
namespace Go.Ev
variable {P : Program} {σ : Sg} {w : World} [Frozen P]
structure DM {α : Type} (S : (α → Prop) → Prop) : Prop where
  det : ∀ K, S K → ∃ v, K v ∧ S fun u => u = v
  mono : ∀ K K' : α → Prop, (∀ x, K x → K' x) → S K → S K'
theorem DM.comp {α β : Type} {S : (β → Prop) → Prop} {T : β → (α → Prop) → Prop} (h : DM S) (k : ∀ y, DM (T y)) : DM fun K => S fun y => T y K :=
  ⟨fun K hK => by
    obtain ⟨y, h1, h2⟩ := h.det _ hK
    obtain ⟨v, h3, h4⟩ := (k y).det _ h1
    exact ⟨v, h3, h.mono _ _ (fun x e => by rw [e]; exact h4) h2⟩, fun K K' hk hK => h.mono _ _ (fun y => (k y).mono _ _ hk) hK⟩
theorem DM.opt {α : Type} (x : Option α) : DM fun K : α → Prop => cpo x K := by
  cases x with
  | none => exact ⟨fun _ h => False.elim h, fun _ _ _ h => h⟩
  | some y => exact ⟨fun K h => ⟨y, h, rfl⟩, fun _ _ hk h => hk _ h⟩
theorem DM.cpo {α β : Type} {x : Option β} {f : β → (α → Prop) → Prop} (h : ∀ y, DM (f y)) : DM fun K => Ev.cpo x fun y => f y K := DM.comp (DM.opt x) h
theorem DM.no {α : Type} : DM fun _ : α → Prop => False := ⟨fun _ h => h.elim, fun _ _ _ h => h⟩
theorem DM.id {α : Type} (v : α) : DM fun K : α → Prop => K v := ⟨fun _ h => ⟨v, h, rfl⟩, fun _ _ hk h => hk _ h⟩
theorem DM.cpb {α : Type} {b : Bool} {S : (α → Prop) → Prop} (h : DM S) : DM fun K => Ev.cpb b (S K) := by
  cases b with
  | false => exact .no
  | true => exact h
theorem DM.and {α : Type} {p : Prop} {S : (α → Prop) → Prop} (h : DM S) : DM fun K => p ∧ S K :=
  ⟨fun K hK => let ⟨v, h1, h2⟩ := h.det K hK.2; ⟨v, h1, hK.1, h2⟩, fun _ _ hk hK => ⟨hK.1, h.mono _ _ hk hK.2⟩⟩
theorem DM.bool {α : Type} {b : Bool} {S T : (α → Prop) → Prop} (h : DM S) (k : DM T) : DM fun K => (Bool.rec (S K) (T K) b : Prop) := by cases b with
  | false => exact h
  | true => exact k
theorem DM.set {α β : Type} {x : β} (f : β → α) : DM fun K : α → Prop => ∀ z, z = x → K (f z) := ⟨fun K h => ⟨_, h _ rfl, fun z hz => by rw [hz]⟩, fun _ _ hk h z hz => hk _ (h z hz)⟩
theorem sInt_dm {j : IntKind} {x : Int} : DM (sInt j x) := DM.set (tgI j)
theorem sSet_dm {j : IntKind} {x : Int} : DM (sSet j x) := DM.set (tgI j)
theorem sIf_dm {p : Prop} : DM (sIf p) := ⟨fun K h => by
    by_cases hp : p
    · exact ⟨_, h.1 hp, fun _ => rfl, fun e => absurd hp e⟩
    · exact ⟨_, h.2 hp, fun e => absurd e hp, fun _ => rfl⟩, fun _ _ hk h => ⟨fun e => hk _ (h.1 e), fun e => hk _ (h.2 e)⟩⟩
theorem DM.ways {α : Type} {b : Bool} {S T : (α → Prop) → Prop} (h : DM S) (k : DM T) : DM fun K => (b = true → S K) ∧ (b = false → T K) := by
  cases b with
  | true => exact ⟨fun K hK => let ⟨v, h1, h2⟩ := h.det K (hK.1 rfl); ⟨v, h1, fun _ => h2, fun e => Bool.noConfusion e⟩, fun _ _ hk hK => ⟨fun e => h.mono _ _ hk (hK.1 e), fun e => Bool.noConfusion e⟩⟩
  | false => exact ⟨fun K hK => let ⟨v, h1, h2⟩ := k.det K (hK.2 rfl); ⟨v, h1, fun e => Bool.noConfusion e, fun _ => h2⟩, fun _ _ hk hK => ⟨fun e => Bool.noConfusion e, fun e => k.mono _ _ hk (hK.2 e)⟩⟩
theorem symInt_dm {op : BinOp} {j : IntKind} {m n : Int} : DM (symInt op j m n) := by
  cases op <;> first | exact sInt_dm | exact sIf_dm | exact sInt_dm.and | exact sSet_dm.and
theorem symStr_dm {op : BinOp} {s u : ByteArray} : DM (symStr op s u) := by
  cases op <;> first | exact sIf_dm | exact DM.no | exact DM.and (DM.set fun s => tg (mkStr s))
theorem symBool_dm {op : BinOp} {p q : Bool} : DM (symBool op p q) := by
  cases op <;> first | exact sIf_dm | exact DM.no
theorem symBin_dm {op : BinOp} {t : TypeId} {a b : Value} : DM (symBin P op t a b) := by
  cases a with
  | int j m => cases b with
    | int k n => exact symInt_dm.cpb
    | _ => exact .no
  | bool p => cases b with
    | bool q => exact DM.cpo fun d => symBool_dm.cpb
    | _ => exact .no
  | string s => cases b with
    | string u => exact symStr_dm
    | _ => exact .no
  | _ => exact .no
theorem symNil_dm {op : BinOp} {t : TypeId} {b : Bool} : DM (symNil P op t b) := by
  refine DM.cpb ?_
  cases op with
  | eql => exact DM.ways (S := fun K : Value → Prop => K (.bool true)) (T := fun K : Value → Prop => K (.bool false)) (DM.id _) (DM.id _)
  | neq => exact DM.ways (S := fun K : Value → Prop => K (.bool false)) (T := fun K : Value → Prop => K (.bool true)) (DM.id _) (DM.id _)
  | _ => exact DM.no
theorem symB_dm {op : BinOp} {t : TypeId} {a b : Value} : DM (symB P op t a b) := by
  unfold symB
  cases mnB a with
  | none => exact symBin_dm
  | some nb => exact symNil_dm.cpb
theorem rd1_dm {sk : SK} {c : List Value} {o : Nat} : DM (rd1 sk c o) := by
  cases sk with
  | i k => exact ⟨fun K h => let ⟨z, h1, h2⟩ := h; ⟨_, h2, z, h1, rfl⟩, fun _ _ hk h => let ⟨z, h1, h2⟩ := h; ⟨z, h1, hk _ h2⟩⟩
  | b => exact ⟨fun K h => let ⟨z, h1, h2⟩ := h; ⟨_, h2, z, h1, rfl⟩, fun _ _ hk h => let ⟨z, h1, h2⟩ := h; ⟨z, h1, hk _ h2⟩⟩
  | s => exact ⟨fun K h => let ⟨z, h1, h2⟩ := h; ⟨_, h2, z, h1, rfl⟩, fun _ _ hk h => let ⟨z, h1, h2⟩ := h; ⟨z, h1, hk _ h2⟩⟩
  | x => exact .no
theorem DM.map {α β : Type} {S : (α → Prop) → Prop} (h : DM S) (f : α → β) : DM fun K : β → Prop => S fun x => K (f x) := DM.comp h fun y => DM.id (f y)
theorem rdAll_dm : ∀ {ks : List SK} {c : List Value} {o j : Nat}, DM (rdAll ks c o j) := by
  intro ks
  induction ks with
  | nil => intro c o j; exact DM.id _
  | cons k ks ih => intro c o j; exact DM.comp (S := rd1 k c (Nat.add o j)) (T := fun v K => rdAll ks c o (Nat.succ j) fun vs => K (v :: vs)) rd1_dm fun v => DM.map ih fun vs => v :: vs
theorem oneOf_dm (vs : List Value) : DM (oneOf vs) := by
  unfold oneOf
  split
  · exact DM.id _
  · exact DM.no
theorem symLoad_dm {t : TypeId} {H : T AO} {v : Value} : DM (symLoad P t H v) := by
  refine DM.cpo fun a => ?_
  split
  · refine DM.cpo fun c => DM.cpo fun ks => DM.cpo fun ag => DM.bool ?_ (DM.cpo fun n => DM.cpb (DM.map rdAll_dm fun vs => Value.agg ⟨vs⟩))
    exact DM.comp rdAll_dm oneOf_dm
  · exact .no
theorem symUn_dm {op : UnOp} {v : Value} : DM (symUn op v) := by
  cases op <;> cases v <;> first | exact DM.no | exact sInt_dm | exact DM.ways (S := fun K : Value → Prop => K (.bool false)) (T := fun K : Value → Prop => K (.bool true)) (DM.id _) (DM.id _)
theorem symConv_dm {s d : TypeId} {v : Value} : DM (symConv P s d v) := by
  cases v with
  | int k n => exact DM.cpo fun _ => DM.cpo fun _ => sInt_dm
  | _ => exact .no
theorem symLen_dm {t : TypeId} {v : Value} : DM (symLen P t v) := by
  refine DM.cpo fun d => ?_
  cases d <;> cases v <;> first | exact .no | exact sSet_dm
theorem symIdx_dm {e : TypeId} {a : Option Addr} {len : Nat} {i : Value} : DM (symIdx P e a len i) := by
  refine DM.cpo fun a => ?_
  split
  · refine DM.cpo fun n => ?_
    cases i with
    | int k z => exact DM.and (DM.set fun p => tg (.pointer (some ⟨_, p, none⟩)))
    | _ => exact .no
  · exact .no
theorem symIndexAddr_dm {t : TypeId} {x i : Value} : DM (symIndexAddr P t x i) := by
  refine DM.cpo fun d => ?_
  cases d <;> cases x <;> first | exact .no | exact symIdx_dm
theorem arrW_all {e : TypeId} {c : List Value} {n : Nat} {z : Int} {K : Value → Prop} : ∀ {is : List Nat}, arrW P e c n z K is ↔ ∀ j ∈ is, z = (j : Int) → Ev.cpo (partA P e c (Nat.mul j n)) K := by
  intro is
  induction is with
  | nil => exact ⟨fun _ j hj => (by cases hj), fun _ => trivial⟩
  | cons i is ih =>
    show ((z = (i : Int) → Ev.cpo (partA P e c (Nat.mul i n)) K) ∧ arrW P e c n z K is) ↔ _
    rw [ih]
    constructor
    · rintro ⟨h1, h2⟩ j hj
      rcases List.mem_cons.1 hj with rfl | hj
      · exact h1
      · exact h2 j hj
    · exact fun h => ⟨h i List.mem_cons_self, fun j hj => h j (List.mem_cons_of_mem _ hj)⟩
theorem symIndex_dm {t : TypeId} {x i : Value} : DM (symIndex P t x i) := by
  refine DM.cpo fun d => ?_
  cases d <;> cases x <;> cases i <;> first | exact .no | skip
  · rename_i s k z
    refine ⟨fun K h => ?_, fun _ _ hk h => ⟨h.1, fun b hb => hk _ (h.2 b hb)⟩⟩
    obtain ⟨⟨h0, h1⟩, h2⟩ := h
    have hlt : z.toNat < s.data.toList.length := by omega
    refine ⟨_, h2 _ (List.getElem?_eq_getElem hlt), ⟨h0, h1⟩, fun b hb => ?_⟩
    rw [List.getElem?_eq_getElem hlt] at hb
    cases hb; rfl
  · rename_i len e c k z
    refine DM.cpo fun n => ⟨fun K h => ?_, fun _ _ hk h => ⟨h.1, arrW_all.2 fun j hj e => (DM.opt _).mono _ _ hk (arrW_all.1 h.2 j hj e)⟩⟩
    obtain ⟨⟨h0, h1⟩, h2⟩ := h
    have hz : z = ((z.toNat : Nat) : Int) := by omega
    obtain ⟨v, hv, hK⟩ := arrW_some hz h2 (List.mem_range.2 (by omega))
    refine ⟨v, hK, ⟨h0, h1⟩, arrW_all.2 fun j _ e => cpo_iff.2 ⟨v, ?_, rfl⟩⟩
    have : j = z.toNat := by omega
    rw [this]; exact hv
theorem symMM_dm {b : Builtin} {vs : List Value} : DM (symMM b vs) := by
  unfold symMM
  split
  · split
    · split
      · exact sSet_dm
      · exact .no
    · exact .no
  · exact .no
theorem two_dm {o : Op} {F : T Value} {H : T AO} {x y : Operand} {s : Value → Value → (Value → Prop) → Prop} (h : ∀ a b, DM (s a b)) : DM fun K => two o P F H x y K fun a b => s a b K :=
  DM.cpo fun a => DM.cpo fun b => DM.bool (DM.opt _) (h a b)
theorem one_dm {o : Op} {F : T Value} {H : T AO} {x : Operand} {s : Value → (Value → Prop) → Prop} (h : ∀ a, DM (s a)) : DM fun K => one o P F H x K fun a => s a K :=
  DM.cpo fun a => DM.bool (DM.opt _) (h _)
theorem symCall_dm {c : Call} {o : Op} {F : T Value} {H : T AO} : DM (symCall c o P F H) := by
  obtain ⟨cal, args, ats⟩ := c
  cases cal with
  | builtin b => cases b <;> first
    | exact DM.opt _
    | exact DM.cpo fun t => DM.cpo fun x => one_dm fun a => symLen_dm
    | exact DM.cpo fun vs => DM.bool (DM.opt _) symMM_dm
  | _ => exact DM.opt _
theorem mnWays_dm {v : Value} {s : Value → (Value → Prop) → Prop} (h : ∀ x, DM (s x)) : DM fun K => mnWays v fun x => s x K := by
  unfold mnWays
  cases mnB v with
  | none => exact h _
  | some b => exact DM.ways (h _) (h _)
theorem symSlice_dm {H : T AO} {t : TypeId} {lo hi : Option Value} {x : Value} : DM fun K => symSlice P H t lo hi K x := by
  unfold symSlice
  refine DM.cpo fun d => ?_
  cases d <;> first | exact .no | skip
  rename_i e
  cases x <;> first | exact .no | skip
  rename_i a l c
  refine DM.cpo fun n => DM.cpo fun l => DM.cpo fun h => ?_
  cases a with
  | none => exact DM.cpb (DM.and (DM.id _))
  | some a =>
    obtain ⟨b, o, sp⟩ := a
    cases sp with
    | some _ => exact .no
    | none =>
      show DM fun K => symSl H n b o _ c l h K
      unfold symSl
      refine DM.cpo fun x => ?_
      cases x <;> first | exact .no | skip
      exact DM.and ⟨fun K hK => ⟨_, hK _ _ _ rfl rfl rfl, fun p q c e1 e2 e3 => by rw [e1, e2, e3]⟩, fun K K' hk h p q c e1 e2 e3 => hk _ (h p q c e1 e2 e3)⟩
theorem symAgg_dm {op : BinOp} {t : TypeId} {a b : Value} : DM (symAgg P op t a b) := by
  refine DM.cpb (DM.cpo fun _ => DM.cpo fun _ => DM.cpo fun l => ?_)
  cases op <;> first | exact .no | skip
  · exact DM.bool sIf_dm (DM.id _)
  · refine DM.bool ⟨fun K h => ?_, fun _ _ hk h => ⟨fun e => hk _ (h.1 e), fun e => hk _ (h.2 e)⟩⟩ (DM.id _)
    by_cases hp : conj l
    · exact ⟨_, h.2 hp, fun e => absurd hp e, fun _ => rfl⟩
    · exact ⟨_, h.1 hp, fun _ => rfl, fun e => absurd e hp⟩
theorem symArr_dm {t : TypeId} {v : Value} : DM (symArr P t v) := by
  refine DM.cpo fun q => ?_
  cases v <;> first | exact .no | skip
  rename_i a l c
  cases a with
  | none => exact .no
  | some a => exact DM.and (DM.id _)
theorem symQ0_dm {o : Op} {F : T Value} {H : T AO} : DM (symQ0 P o F H) := by
  cases o <;> try first | exact DM.opt _ | exact (DM.opt (none : Option Value) : DM fun K : Value → Prop => cpo none K)
  case binOp op t x y yt => exact DM.cpo fun a => DM.cpo fun b => DM.bool (DM.bool (DM.opt _) symB_dm) symAgg_dm
  case sliceToArrayPointer t x =>
    refine DM.cpo fun a => DM.bool (DM.opt _) ?_
    cases mnB a with
    | some _ => exact .no
    | none => exact symArr_dm
  case unOp op t x => exact one_dm fun a => symUn_dm
  case convert s d x => exact one_dm fun a => symConv_dm
  case load t x => exact one_dm fun a => symLoad_dm
  case indexAddr t x i => exact two_dm fun a b => symIndexAddr_dm
  case index t x i => exact two_dm fun a b => symIndex_dm
  case fieldAddr s x f =>
    refine one_dm fun a => ?_
    refine DM.cpo fun fs => DM.cpo fun fd => DM.cpo fun n => DM.cpb ?_
    split
    · exact DM.set fun p => tg (.pointer (some ⟨_, p, none⟩))
    · exact .no
  case call c => exact symCall_dm
  case slice t x lo hi mx =>
    cases mx with
    | some _ => exact DM.opt _
    | none => exact DM.cpo fun a => DM.cpo fun l => DM.cpo fun h => DM.bool (DM.opt _) (mnWays_dm (s := fun x K => symSlice P H t l h K x) fun x => symSlice_dm)
  case pick c x y =>
    refine DM.cpo fun a => DM.bool (DM.opt _) ?_
    cases uval a <;> first | exact .no | exact DM.ways (DM.opt _) (DM.opt _)
noncomputable section
def blockOf : Value → Option (Option Nat)
  | .pointer (some a) => some (some a.block)
  | .slice (some a) _ _ => some (some a.block)
  | .map (some r) => some (some r)
  | .pointer none | .slice none _ _ | .map none | .string _ | .int _ _ | .bool _ => some none
  | _ => none
def placeOf (P : Program) (F : T Value) (x : Operand) : Option (Option Nat) := ob (opnd P F x) fun v => blockOf (uval v)
def looksAt0 (P : Program) (F : T Value) (o : Op) : Option (Option Nat) := match o with
  | .move _ | .assign _ | .pick _ _ _ | .build _ _ | .binOp _ _ _ _ _ | .unOp _ _ _ | .makeInterface _ _ | .makeFunc _ _ _ | .fieldAddr _ _ _ | .field _ _ _ | .indexAddr _ _ _ | .index _ _ _ | .extract _ _ | .nilCheck _ | .sliceToArrayPointer _ _ => some none
  | .load _ x => placeOf P F x
  | .convert _ _ x => ob (opnd P F x) fun v => match uval v with
    | .int _ _ => some none
    | _ => none
  | .lookup _ x _ _ => placeOf P F x
  | .slice _ x _ _ _ => placeOf P F x
  | .call c => match c.callee with
    | .builtin .len => ob (lget c.args.toList 0) fun x => placeOf P F x
    | .builtin .min | .builtin .max => some none
    | _ => none
  | _ => none
end
theorem rowAt_same {H H' : T AO} {b : Nat} (h : H.get b = H'.get b) {β : Type} (f : List Value → TypeId → Md → Option β) : rowAt H b f = rowAt H' b f := by unfold rowAt; rw [h]
theorem mapAt_same {H H' : T AO} {b : Nat} (h : H.get b = H'.get b) {β : Type} (f : List MapEntry → Nat → Option β) : mapAt H b f = mapAt H' b f := by unfold mapAt; rw [h]
theorem loadA_same {H H' : T AO} {v : Value} (h : ∀ b', blockOf v = some (some b') → H.get b' = H'.get b') (t : TypeId) : loadA P t H v = loadA P t H' v := by
  cases v <;> try rfl
  rename_i a
  cases a with
  | none => rfl
  | some a =>
    obtain ⟨k, o, sp⟩ := a
    cases sp with
    | some _ => rfl
    | none => exact rowAt_same (h k rfl) _
theorem symLoad_same {H H' : T AO} {v : Value} (h : ∀ b', blockOf v = some (some b') → H.get b' = H'.get b') (t : TypeId) (K : Value → Prop) : symLoad P t H v K = symLoad P t H' v K := by
  cases v <;> try rfl
  rename_i a
  cases a with
  | none => rfl
  | some a =>
    obtain ⟨k, o, sp⟩ := a
    cases sp with
    | some _ => rfl
    | none =>
      show cpo (rowAt H k fun c _ _ => some c) _ = cpo (rowAt H' k fun c _ _ => some c) _
      rw [rowAt_same (h k rfl)]
theorem uval_plain {v : Value} (h : isSym v = false) : uval v = v := by
  cases v <;> try rfl
  rename_i t x
  have h : bnot (Nat.blt t SYM) = false := h
  rw [bnot_eq] at h
  have hlt : Nat.blt t SYM = true := by simpa using h
  have h1 : Nat.beq t SYM = false := by cases hb : Nat.beq t SYM with
    | false => rfl
    | true => rw [beqIff.1 hb] at hlt; exact absurd hlt noSYM
  have h2 : Nat.beq t MN = false := by cases hb : Nat.beq t MN with
    | false => rfl
    | true => rw [beqIff.1 hb] at hlt; exact absurd hlt noMN
  simp only [uval, h1, h2]
theorem lookup_same {H H' : T AO} {m : Value} (h : ∀ b', blockOf m = some (some b') → H.get b' = H'.get b') (t : TypeId) (k : Value) (ok : Bool) : lookupA P H t m k ok = lookupA P H' t m k ok := by
  have he : entriesA H m = entriesA H' m := by
    cases m <;> try rfl
    rename_i r
    cases r with
    | none => rfl
    | some r => exact mapAt_same (h r rfl) _
  unfold lookupA
  rw [he]
theorem len_same {H H' : T AO} {x : Value} (h : ∀ b', blockOf x = some (some b') → H.get b' = H'.get b') (t : TypeId) : lenA P H t x = lenA P H' t x := by
  have he : entriesA H x = entriesA H' x := by
    cases x <;> try rfl
    rename_i r
    cases r with
    | none => rfl
    | some r => exact mapAt_same (h r rfl) _
  unfold lenA
  cases P.underlying t with
  | none => rfl
  | some d =>
    show (match d with
      | .string => _
      | .slice _ => _
      | .array n _ => _
      | .map _ _ => _
      | _ => _) = _
    cases d <;> first | rfl | (show ob (entriesA H x) _ = ob (entriesA H' x) _; rw [he])
theorem slice_same {H H' : T AO} {x : Value} (h : ∀ b', blockOf x = some (some b') → H.get b' = H'.get b') (t : TypeId) (lo hi mx : Option Value) : sliceA P H t x lo hi mx = sliceA P H' t x lo hi mx := by
  unfold sliceA
  cases P.underlying t with
  | none => rfl
  | some d =>
    cases d <;> try rfl
    case slice e =>
      show sliceL P H e x lo hi mx = sliceL P H' e x lo hi mx
      cases x <;> try rfl
      rename_i a l c
      cases a with
      | none => rfl
      | some a =>
        obtain ⟨k, o, sp⟩ := a
        cases sp with
        | some _ => rfl
        | none =>
          unfold sliceL
          cases sizeA P e with
          | none => rfl
          | some n => exact rowAt_same (h k rfl) _
    case array n e =>
      show sliceR P H n e x lo hi mx = sliceR P H' n e x lo hi mx
      cases x <;> try rfl
      rename_i a
      cases a with
      | none => rfl
      | some a =>
        obtain ⟨k, o, sp⟩ := a
        cases sp with
        | some _ => rfl
        | none =>
          unfold sliceR
          show ob (sizeA P e) _ = ob (sizeA P e) _
          cases sizeA P e with
          | none => rfl
          | some sz => exact rowAt_same (h k rfl) _
theorem symSlice_same {H H' : T AO} {x : Value} (h : ∀ b', blockOf x = some (some b') → H.get b' = H'.get b') (t : TypeId) (lo hi : Option Value) (K : Value → Prop) : symSlice P H t lo hi K x = symSlice P H' t lo hi K x := by
  unfold symSlice
  cases P.underlying t with
  | none => rfl
  | some d =>
    cases d <;> try rfl
    rename_i e
    cases x <;> try rfl
    rename_i a l c
    cases a with
    | none => rfl
    | some a =>
      obtain ⟨k, o, sp⟩ := a
      cases sp with
      | some _ => rfl
      | none =>
        show (cpo (sizeA P e) fun n => cpo (numO 0 lo) fun l => cpo (numO _ hi) fun h => symSl H n k o _ c l h K) = (cpo (sizeA P e) fun n => cpo (numO 0 lo) fun l => cpo (numO _ hi) fun h => symSl H' n k o _ c l h K)
        unfold symSl
        rw [h k rfl]
theorem symQ0_same {o : Op} {F : T Value} {H H' : T AO} {x : Option Nat} (hl : looksAt0 P F o = some x) (h : ∀ b, x = some b → H.get b = H'.get b) (K : Value → Prop) : symQ0 P o F H K = symQ0 P o F H' K := by
  cases o <;> simp only [looksAt0] at hl <;> try (first | rfl | (cases hl; done))
  case load t y =>
    simp only [placeOf, ob_some] at hl
    obtain ⟨a, ha, hb⟩ := hl
    show cpo (opnd P F y) _ = cpo (opnd P F y) _
    rw [ha]
    show (Bool.rec (cpo (evQ (.load t y) P F H) K) (symLoad P t H (uval a) K) (isSym a) : Prop) = Bool.rec (cpo (evQ (.load t y) P F H') K) (symLoad P t H' (uval a) K) (isSym a)
    have h' : ∀ b', blockOf (uval a) = some (some b') → H.get b' = H'.get b' := fun b' e => h b' (by rw [hb] at e; exact Option.some.inj e)
    cases hs : isSym a with
    | true => exact symLoad_same h' t K
    | false =>
      rw [uval_plain hs] at h'
      show cpo (ob (opnd P F y) (loadA P t H)) K = cpo (ob (opnd P F y) (loadA P t H')) K
      rw [ha]
      show cpo (loadA P t H a) K = cpo (loadA P t H' a) K
      rw [loadA_same h']
  case convert s d y =>
    simp only [ob_some] at hl
    obtain ⟨a, ha, hb⟩ := hl
    show cpo (opnd P F y) (fun a => Bool.rec (cpo (evQ (.convert s d y) P F H) K) (symConv P s d (uval a) K) (isSym a)) = cpo (opnd P F y) (fun a => Bool.rec (cpo (evQ (.convert s d y) P F H') K) (symConv P s d (uval a) K) (isSym a))
    rw [ha]
    show (Bool.rec (cpo (evQ (.convert s d y) P F H) K) (symConv P s d (uval a) K) (isSym a) : Prop) = Bool.rec (cpo (evQ (.convert s d y) P F H') K) (symConv P s d (uval a) K) (isSym a)
    cases hs : isSym a with
    | true => rfl
    | false =>
      rw [uval_plain hs] at hb
      show cpo (qConv s d y P F H) K = cpo (qConv s d y P F H') K
      unfold qConv
      rw [ha]
      cases a <;> first | rfl | (cases hb; done)
  case lookup t y k ok =>
    simp only [placeOf, ob_some] at hl
    obtain ⟨a, ha, hb⟩ := hl
    show cpo (ob (opnd P F y) fun m => ob (opnd P F k) fun k => lookupA P H t m k ok) K = cpo (ob (opnd P F y) fun m => ob (opnd P F k) fun k => lookupA P H' t m k ok) K
    rw [ha]
    show cpo (ob (opnd P F k) fun k => lookupA P H t a k ok) K = cpo (ob (opnd P F k) fun k => lookupA P H' t a k ok) K
    cases hs : isSym a with
    | false =>
      rw [uval_plain hs] at hb
      have : (fun k => lookupA P H t a k ok) = fun k => lookupA P H' t a k ok := funext fun k => lookup_same (fun b' e => h b' (by rw [hb] at e; exact Option.some.inj e)) t k ok
      rw [this]
    | true =>
      have hn : ∀ (H : T AO) (k : Value), lookupA P H t a k ok = none := fun H k => by
        have he : entriesA H a = none := by
          cases a <;> first | (cases hs; done) | rfl
        unfold lookupA
        rw [he]
        cases mapT P t <;> try rfl
        rename_i q
        show bt (flat k) _ = none
        cases flat k <;> try rfl
        show ob (P.underlying q.1) _ = none
        cases P.underlying q.1 <;> try rfl
        rename_i kd
        show bt (keyD kd) _ = none
        cases keyD kd <;> rfl
      have : (fun k => lookupA P H t a k ok) = fun k => lookupA P H' t a k ok := funext fun k => by rw [hn, hn]
      rw [this]
  case slice t y lo hi mx =>
    simp only [placeOf, ob_some] at hl
    obtain ⟨a, ha, hb⟩ := hl
    have hev : evQ (.slice t y lo hi mx) P F H = evQ (.slice t y lo hi mx) P F H' := by
      show (ob (opnd P F y) fun x => ob (optOp P F lo) fun lo => ob (optOp P F hi) fun hi => ob (optOp P F mx) fun mx => sliceA P H t x lo hi mx) = (ob (opnd P F y) fun x => ob (optOp P F lo) fun lo => ob (optOp P F hi) fun hi => ob (optOp P F mx) fun mx => sliceA P H' t x lo hi mx)
      rw [ha]
      show (ob (optOp P F lo) fun lo => ob (optOp P F hi) fun hi => ob (optOp P F mx) fun mx => sliceA P H t a lo hi mx) = (ob (optOp P F lo) fun lo => ob (optOp P F hi) fun hi => ob (optOp P F mx) fun mx => sliceA P H' t a lo hi mx)
      have hs : ∀ lo hi mx, sliceA P H t a lo hi mx = sliceA P H' t a lo hi mx := by
        cases hs : isSym a with
        | false =>
          rw [uval_plain hs] at hb
          exact fun lo hi mx => slice_same (fun b' e => h b' (by rw [hb] at e; exact Option.some.inj e)) t lo hi mx
        | true =>
          intro lo hi mx
          unfold sliceA
          cases P.underlying t with
          | none => rfl
          | some d => cases a <;> first | (cases hs; done) | (cases d <;> rfl)
      simp only [hs]
    cases mx with
    | some m => show cpo (evQ (.slice t y lo hi (some m)) P F H) K = cpo (evQ (.slice t y lo hi (some m)) P F H') K; rw [hev]
    | none =>
      have hsl : ∀ l h, symSlice P H t l h K (uval a) = symSlice P H' t l h K (uval a) := fun l h' => symSlice_same (fun b' e => h b' (by rw [hb] at e; exact Option.some.inj e)) t l h' K
      have hmn : ∀ l h, mnWays a (symSlice P H t l h K) = mnWays a (symSlice P H' t l h K) := fun l h' => by
        unfold mnWays
        cases mnB a with
        | none => exact hsl l h'
        | some b =>
          have h0 : symSlice P H t l h' K (.slice none 0 0) = symSlice P H' t l h' K (.slice none 0 0) := symSlice_same (fun b' e => by cases e) t l h' K
          show ((b = true → symSlice P H t l h' K (.slice none 0 0)) ∧ (b = false → symSlice P H t l h' K (uval a))) = ((b = true → symSlice P H' t l h' K (.slice none 0 0)) ∧ (b = false → symSlice P H' t l h' K (uval a)))
          rw [h0, hsl]
      show symS (.slice t y lo hi none) P F H t y lo hi K = symS (.slice t y lo hi none) P F H' t y lo hi K
      unfold symS
      rw [hev]
      rw [ha]
      show (cpo (optOp P F lo) fun l => cpo (optOp P F hi) fun h => (Bool.rec (cpo (evQ (.slice t y lo hi none) P F H') K) (mnWays a (symSlice P H t l h K)) (isSym a || (symO l || symO h)) : Prop)) = (cpo (optOp P F lo) fun l => cpo (optOp P F hi) fun h => (Bool.rec (cpo (evQ (.slice t y lo hi none) P F H') K) (mnWays a (symSlice P H' t l h K)) (isSym a || (symO l || symO h)) : Prop))
      simp only [hmn]
  case call c =>
    obtain ⟨cal, args, ats⟩ := c
    cases cal with
    | builtin b =>
      cases b <;> simp only at hl <;> try (first | rfl | (cases hl; done))
      simp only [placeOf, ob_some] at hl
      obtain ⟨y, hy, a, ha, hb⟩ := hl
      show cpo (lget ats.toList 0) _ = cpo (lget ats.toList 0) _
      cases lget ats.toList 0 with
      | none => rfl
      | some t =>
        show cpo (lget args.toList 0) _ = cpo (lget args.toList 0) _
        have hy : lget args.toList 0 = some y := hy
        rw [hy]
        show cpo (opnd P F y) _ = cpo (opnd P F y) _
        rw [ha]
        show (Bool.rec (cpo (evQ (.call ⟨.builtin .len, args, ats⟩) P F H) K) (symLen P t (uval a) K) (isSym a) : Prop) = Bool.rec (cpo (evQ (.call ⟨.builtin .len, args, ats⟩) P F H') K) (symLen P t (uval a) K) (isSym a)
        cases hs : isSym a with
        | true => rfl
        | false =>
          rw [uval_plain hs] at hb
          show cpo (ob (lget ats.toList 0) fun t => ob (lget args.toList 0) fun x => ob (opnd P F x) (lenA P H t)) K = cpo (ob (lget ats.toList 0) fun t => ob (lget args.toList 0) fun x => ob (opnd P F x) (lenA P H' t)) K
          rw [hy]
          show cpo (ob (lget ats.toList 0) fun t => ob (opnd P F y) (lenA P H t)) K = cpo (ob (lget ats.toList 0) fun t => ob (opnd P F y) (lenA P H' t)) K
          rw [ha]
          show cpo (ob (lget ats.toList 0) fun t => lenA P H t a) K = cpo (ob (lget ats.toList 0) fun t => lenA P H' t a) K
          have : (fun t => lenA P H t a) = fun t => lenA P H' t a := funext fun t => len_same (fun b' e => h b' (by rw [hb] at e; exact Option.some.inj e)) t
          rw [this]
    | _ => cases hl
theorem xr1_dm {sk : SK} {b o : Nat} : DM (xr1 P sk b o) := by
  cases sk with
  | i k => exact ⟨fun K h => let ⟨z, h1, h2⟩ := h; ⟨_, h2, z, h1, rfl⟩, fun _ _ hk h => let ⟨z, h1, h2⟩ := h; ⟨z, h1, hk _ h2⟩⟩
  | b => exact ⟨fun K h => let ⟨z, h1, h2⟩ := h; ⟨_, h2, z, h1, rfl⟩, fun _ _ hk h => let ⟨z, h1, h2⟩ := h; ⟨z, h1, hk _ h2⟩⟩
  | s => exact ⟨fun K h => let ⟨z, h1, h2⟩ := h; ⟨_, h2, z, h1, rfl⟩, fun _ _ hk h => let ⟨z, h1, h2⟩ := h; ⟨z, h1, hk _ h2⟩⟩
  | x => exact ⟨fun K h => let ⟨a, l, c, h1, h2⟩ := h; ⟨_, h2, a, l, c, h1, rfl⟩, fun _ _ hk h => let ⟨a, l, c, h1, h2⟩ := h; ⟨a, l, c, h1, hk _ h2⟩⟩
theorem xrAll_dm : ∀ {ks : List SK} {b o j : Nat}, DM (xrAll P ks b o j) := by
  intro ks
  induction ks with
  | nil => intro b o j; exact DM.id _
  | cons k ks ih => intro b o j; exact DM.comp (S := xr1 P k b (Nat.add o j)) (T := fun v K => xrAll P ks b o (Nat.succ j) fun vs => K (v :: vs)) xr1_dm fun v => DM.map ih fun vs => v :: vs
theorem xQ_dm {o : Op} {F : T Value} {a : Value} : DM fun K => xQ P o F K a := by
  cases o <;> try exact DM.no
  case load t x =>
    show DM fun K => xLoadV P t K a
    unfold xLoadV
    split
    · refine DM.cpo fun ks => DM.cpo fun ag => DM.bool ?_ (DM.cpo fun n => DM.cpb (DM.map xrAll_dm fun vs => Value.agg ⟨vs⟩))
      exact DM.comp xrAll_dm oneOf_dm
    · exact .no
  case indexAddr t x i =>
    refine DM.cpo fun e => DM.cpo fun iv => ?_
    unfold xIdxV
    cases a <;> first | exact .no | skip
    rename_i ad l c
    refine DM.cpo fun n => ?_
    cases uval iv <;> first | exact .no | skip
    refine DM.and ⟨fun K h => ?_, fun K K' hk h => let ⟨b, o, e, h1⟩ := h; ⟨b, o, e, fun p hp => hk _ (h1 p hp)⟩⟩
    obtain ⟨b, o, e, h1⟩ := h
    exact ⟨_, h1 _ rfl, b, o, e, fun p hp => by rw [hp]⟩
  case fieldAddr s x f =>
    refine DM.cpo fun fs => DM.cpo fun fd => DM.cpo fun n => DM.cpb ?_
    split
    · exact DM.set fun p => Value.iface EXT (Value.pointer (some ⟨_, p, none⟩))
    · exact .no
  case binOp op t x y yt =>
    refine DM.cpo fun b => DM.cpb (DM.cpb ?_)
    cases a <;> first | exact .no | skip
    cases op <;> first | exact .no | exact sIf_dm
  case slice t x lo hi mx =>
    refine DM.cpo fun l => DM.cpo fun h => DM.cpo fun e => DM.cpo fun n => ?_
    cases a <;> first | exact .no | skip
    exact DM.cpo fun l => DM.cpo fun h => DM.and ⟨fun K hK => ⟨_, hK _ _ _ rfl rfl rfl, fun p q c e1 e2 e3 => by rw [e1, e2, e3]⟩, fun K K' hk h p q c e1 e2 e3 => hk _ (h p q c e1 e2 e3)⟩
  case call c =>
    refine DM.cpo fun t => DM.cpb ?_
    cases a <;> first | exact .no | exact sSet_dm
theorem DM.ifp {α : Type} {p : Prop} {S T : (α → Prop) → Prop} (h : DM S) (k : DM T) : DM fun K => (p → S K) ∧ (¬ p → T K) :=
  ⟨fun K hK => by
    by_cases hp : p
    · obtain ⟨v, h1, h2⟩ := h.det K (hK.1 hp)
      exact ⟨v, h1, fun _ => h2, fun e => absurd hp e⟩
    · obtain ⟨v, h1, h2⟩ := k.det K (hK.2 hp)
      exact ⟨v, h1, fun e => absurd e hp, fun _ => h2⟩, fun _ _ hk hK => ⟨fun e => h.mono _ _ hk (hK.1 e), fun e => k.mono _ _ hk (hK.2 e)⟩⟩
theorem lkQ_dm {t : TypeId} {ok : Bool} {k : Value} : ∀ {es : List MapEntry}, DM fun K => lkQ P t ok k K es := by
  intro es
  induction es with
  | nil => exact DM.opt _
  | cons e es ih =>
    show DM fun K => keyIs k e.key (Ev.cpo (okV ok e.val true) K) (lkQ P t ok k K es)
    unfold keyIs
    split
    · split
      · exact DM.cpb (DM.ifp (DM.opt _) ih)
      · exact .no
    · split
      · exact DM.ifp (DM.opt _) ih
      · exact .no
    · exact .no
theorem symLk_dm {o : Op} {H : T AO} {a : Value × Value} : DM fun K => symLk P o H K a := by
  cases o <;> try exact DM.no
  exact DM.cpo fun q => DM.cpo fun kd => DM.cpb (DM.cpo fun es => lkQ_dm)
theorem symQ_dm {o : Op} {F : T Value} {H : T AO} : DM (symQ P o F H) := by
  show DM fun K => symQ P o F H K
  unfold symQ
  cases xarg P F o with
  | none => cases karg P F o with
    | none => exact symQ0_dm
    | some a => exact symLk_dm
  | some a => exact xQ_dm
noncomputable section
def looksAt (P : Program) (F : T Value) (o : Op) : Option (Option Nat) := Option.rec (looksAt0 P F o) (fun _ => some none) (xarg P F o)
end
theorem symQ_same {o : Op} {F : T Value} {H H' : T AO} {x : Option Nat} (hl : looksAt P F o = some x) (h : ∀ b, x = some b → H.get b = H'.get b) (K : Value → Prop) : symQ P o F H K = symQ P o F H' K := by
  unfold looksAt at hl
  unfold symQ
  cases hx : xarg P F o with
  | none =>
    rw [hx] at hl
    cases hk : karg P F o with
    | none => exact symQ0_same hl h K
    | some a =>
      cases o <;> try (cases hk; done)
      rename_i t y k ok
      have hk : (ob (opnd P F y) fun m => ob (opnd P F k) fun k => bt (isSym k) (some (m, uval k))) = some a := hk
      simp only [ob_some, bt_some, Option.some.injEq] at hk
      obtain ⟨m, hm, kv, _, _, rfl⟩ := hk
      have hl : placeOf P F y = some x := hl
      simp only [placeOf, ob_some] at hl
      obtain ⟨m', hm', hl⟩ := hl
      rw [hm] at hm'; cases hm'
      have he : entriesA H m = entriesA H' m := by
        cases m <;> try rfl
        rename_i r
        cases r with
        | none => rfl
        | some r => exact mapAt_same (h r (Option.some.inj hl).symm) _
      show symLk P (.lookup t y k ok) H K (m, uval kv) = symLk P (.lookup t y k ok) H' K (m, uval kv)
      show (cpo (mapT P t) fun q => cpo (P.underlying q.1) fun kd => cpb (keyK kd (uval kv)) (cpo (entriesA H m) fun es => lkQ P q.2 ok (uval kv) K es)) = (cpo (mapT P t) fun q => cpo (P.underlying q.1) fun kd => cpb (keyK kd (uval kv)) (cpo (entriesA H' m) fun es => lkQ P q.2 ok (uval kv) K es))
      rw [he]
  | some a => rfl
end Go.Ev
end

/- The evaluator with variables: regions, code, calls; it is sound. -/
section
set_option linter.unusedSectionVars false
namespace Go.Ev
variable {P : Program} {N : Nat} [Frozen P]
abbrev CW := FuncId → List Value → AW → (Value → AW → Prop) → Prop
noncomputable section
def doFxW (cw : CW) (ds : List Deferred) (f : Fx) (K : Value → AW → List Deferred → Prop) : Prop := Fx.rec (fun v A => K v A ds) (fun f args A => cw f args A fun v A' => K v A' ds) (fun d A => K (.tuple #[]) A (d :: ds)) f
def stepW (P : Program) [Frozen P] (cw : CW) (N : Nat) (all : List Oper) (o : Oper) (s : St) (K : St → Prop) : Prop := cpo (wantedA all o s.F) fun b => Bool.rec (cpo (putF N s.F o.dst (.tuple #[])) fun F => K ⟨F, s.A, s.ds⟩)
  (Bool.rec (symQ P o.op s.F s.A.heap fun v => cpo (putF N s.F o.dst v) fun F => K ⟨F, s.A, s.ds⟩)
    (symE P o.op s.F s.A fun f => doFxW cw s.ds f fun v A ds => cpo (putF N s.F o.dst v) fun F => K ⟨F, A, ds⟩) (isE P o.op)) b
def seqW (P : Program) [Frozen P] (cw : CW) (N : Nat) (all : List Oper) (os : List Oper) : St → (St → Prop) → Prop := List.rec (motive := fun _ => St → (St → Prop) → Prop) (fun s K => K s) (fun o _ ih s K => stepW P cw N all o s fun s' => ih s' K) os
abbrev PassK := List Rc → List AW → St → Prop
abbrev PassW := List (Option Nat) → Nat → St → PassK → Prop
def quietW (N : Nat) (o : Oper) (v : Value) (k : Nat) (s : St) (ih : Nat → St → PassK → Prop) (K : PassK) : Prop := cpo (putF N s.F o.dst v) fun F => ih k ⟨F, s.A, s.ds⟩ fun rs As s' => K (⟨o, s.F, v, k, false⟩ :: rs) As s'
def effW (N : Nat) (o : Oper) (v : Value) (A : AW) (k : Nat) (s : St) (ih : Nat → St → PassK → Prop) (K : PassK) : Prop := cpo (putF N s.F o.dst v) fun F => ih (Nat.succ k) ⟨F, A, s.ds⟩ fun rs As s' => K (⟨o, s.F, v, k, true⟩ :: rs) (A :: As) s'
def doFxD (cw : CW) (f : Fx) (K : Value → AW → Prop) : Prop := Fx.rec (fun v A => K v A) (fun f args A => cw f args A K) (fun _ _ => False) f
def wantW (P : Program) [Frozen P] (cw : CW) (N : Nat) (o : Oper) (h : Option Nat) (k : Nat) (s : St) (ih : Nat → St → PassK → Prop) (K : PassK) : Prop := Option.rec
  (Bool.rec (symQ P o.op s.F s.A.heap fun v => quietW N o v k s ih K) (cpb (bnot (softO P o.op)) (symE P o.op s.F s.A fun f => doFxD cw f fun v A => effW N o v A k s ih K)) (isE P o.op))
  (fun id => cpo (madeV P s.F o.op id) fun v => quietW N o v k s ih K) h
def oneW (P : Program) [Frozen P] (cw : CW) (N : Nat) (all : List Oper) (o : Oper) (h : Option Nat) (k : Nat) (s : St) (ih : Nat → St → PassK → Prop) (K : PassK) : Prop := cpo (wantedA all o s.F) fun b => Bool.rec
  (Bool.rec (quietW N o (.tuple #[]) k s ih K) (effW N o (.tuple #[]) s.A k s ih K) (loudB P o)) (wantW P cw N o h k s ih K) b
def passW (P : Program) [Frozen P] (cw : CW) (N : Nat) (all : List Oper) (os : List Oper) : PassW := List.rec (motive := fun _ => PassW) (fun _ _ s K => K [] [] s)
  (fun o _ ih hs k s K => match hs with
    | [] => False
    | h :: hs => oneW P cw N all o h k s (ih hs) K) os
def againW (P : Program) [Frozen P] (r : Rc) (h : Option Nat) (Ao A : AW) : Prop := Option.rec (cpo (looksAt P r.F r.o.op) fun x => Option.rec True (fun b => A.heap.get b = Ao.heap.get b) x) (fun id => cpb (freshAt P r.F r.o.op id A.heap) True) h
def winW (P : Program) [Frozen P] (all : List Oper) (r : Rc) (h : Option Nat) (lo hi : Nat) (Ao : AW) (As : List AW) : Nat → Prop := List.rec (motive := fun _ => Nat → Prop) (fun _ => True)
  (fun A _ ih k => Bool.rec (ih (Nat.succ k)) (againW P r h Ao A ∧ ih (Nat.succ k)) (Nat.ble lo k && (Nat.ble k hi && bnot (isOwn h r k)))) As
def winsW (P : Program) [Frozen P] (all : List Oper) (es : List (Nat × Nat)) (As : List AW) (rs : List Rc) : List (Option Nat) → List Nat → Nat → Prop :=
  List.rec (motive := fun _ => List (Option Nat) → List Nat → Nat → Prop) (fun _ _ _ => True)
    (fun r _ ih hs ms i => match hs with
      | [] => False
      | h :: hs => match ms with
        | [] => False
        | m :: ms => (Bool.rec (cpo (wantedA all r.o r.F) fun b => Bool.rec True (cpo (lget As r.at_) fun Ao => winW P all r h (loOf m es 0 0) (hiOf i es 0) Ao As 0) b) True r.loud) ∧ ih hs ms (Nat.succ i)) rs
def preStep (P : Program) (N : Nat) (all : List Oper) (o : Oper) (s : St) : St := Option.rec s (fun x => x) (stepOp P (evCall P ⟨[], [], [], 0⟩ 8) N all o s)
def preW (P : Program) (N : Nat) (ops : List Oper) (s : St) : T Value := Bool.rec s.F (St.F (List.rec (motive := fun _ => St → St) (fun s => s) (fun o _ ih s => ih (preStep P N ops o s)) ops s)) (anyMake ops)
def drawW (P : Program) [Frozen P] (cw : CW) (N : Nat) (ops : List Oper) (s : St) (K : St → Prop) : Prop := cpb (regOk P ops ops (masks ops []) 0) (cpo (hoist P (preW P N ops s) ops s.A) fun h =>
  passW P cw N ops ops h.1 0 ⟨s.F, h.2, s.ds⟩ fun rs As s' => winsW P ops (louds P ops (masks ops []) 0) (h.2 :: As) rs h.1 (masks ops []) 0 ∧ K s')
end
def FnSem (P : Program) [Frozen P] (f : FuncId) (args : List Value) (A : AW) (v : Value) (A' : AW) : Prop := ∀ (σ : Sg) (w : World) (args' : List Value), Rel P σ A w → VRL σ args args' → Serves P σ A w ((callFunc f ⟨args'⟩).run P w) v A'
def CwOK (P : Program) [Frozen P] (cw : CW) : Prop := ∀ f args A K, cw f args A K → ∃ v A', K v A' ∧ FnSem P f args A v A'
def LSemD (P : Program) [Frozen P] (o : Oper) (F : T Value) (A : AW) (ds : List Deferred) (v : Value) (B : AW) (ds' : List Deferred) : Prop := ∀ (σ : Sg) (w : World) (a : Act), Rel P σ A w → OK P σ F a o.op.operands.toList → DRL σ ds a.defers →
  ∀ (next : Act → World → Prop) (Q : Exit → Act → World → Prop), (∀ v' (a' : Act) σ' w', a'.tmps = a.tmps → DRL σ' ds' a'.defers → VR σ' v v' → Rel P σ' B w' → Step σ A w σ' B w' → next (a'.put o.dst v') w') → o.wp P a w next Q
variable {cw : CW}
theorem fx_val {o : Oper} {F : T Value} {A B : AW} {ds : List Deferred} {v : Value} (h : FSem P o F A (.val v B)) : LSemD P o F A ds v B ds := by
  intro σ w a hR hO hD next Q hn
  have hfine := h σ w a hR hO
  unfold Oper.wp
  generalize (execOp a.eval o).run P w = r at hfine ⊢
  obtain ⟨v', σ', w', hr, hv, hR', hS⟩ := hfine
  have := hn v' a σ' w' rfl (hD.sub (hS.sub hR.lim)) hv hR' hS
  rcases hr with rfl | ⟨rfl, rfl⟩
  · exact this
  · exact this
theorem fx_enter {o : Oper} {F : T Value} {A B C : AW} {ds : List Deferred} {f : FuncId} {args : List Value} {v : Value} (h : FSem P o F A (.enter f args B)) (hc : FnSem P f args B v C) (hAB : ∀ σ w a, Rel P σ A w → OK P σ F a o.op.operands.toList → B = A) : LSemD P o F A ds v C ds := by
  intro σ w a hR hO hD next Q hn
  have hfine := h σ w a hR hO
  unfold Oper.wp
  generalize (execOp a.eval o).run P w = r at hfine ⊢
  obtain ⟨rfl, args', ha, rfl⟩ := hfine
  rcases hc σ w args' hR ha with ⟨v', w', hr, σ', hv, hR', hS⟩ | ⟨g, as_, hr, hC⟩
  · rw [hr]; exact hn v' a σ' w' rfl (hD.sub (hS.sub hR.lim)) hv hR' hS
  · rw [hr, Oper.upon_enter]
    refine Calls.mono hC fun e w' he => ?_
    cases e with
    | returned v' => obtain ⟨σ', hv, hR', hS⟩ := he; exact hn v' a σ' w' rfl (hD.sub (hS.sub hR.lim)) hv hR' hS
    | _ => exact he.elim
theorem fx_defr {o : Oper} {F : T Value} {A B : AW} {ds : List Deferred} {d : Deferred} (h : FSem P o F A (.defr d B)) (hAB : ∀ σ w a, Rel P σ A w → OK P σ F a o.op.operands.toList → B = A) : LSemD P o F A ds (.tuple #[]) B (d :: ds) := by
  intro σ w a hR hO hD next Q hn
  have hfine := h σ w a hR hO
  unfold Oper.wp
  generalize (execOp a.eval o).run P w = r at hfine ⊢
  obtain ⟨rfl, fn, cap, cap', args, args', rfl, hc, ha, rfl⟩ := hfine
  exact hn undef { a with defers := _ :: a.defers } σ w rfl (.cons hc ha hD) .undef hR (.refl hR.lim)
theorem fs_same {o : Oper} {F : T Value} {A B : AW} {f : FuncId} {args : List Value} (h : FSem P o F A (.enter f args B)) : ∀ σ w a, Rel P σ A w → OK P σ F a o.op.operands.toList → B = A := fun σ w a hR hO => (h σ w a hR hO).1
theorem fd_same {o : Oper} {F : T Value} {A B : AW} {d : Deferred} (h : FSem P o F A (.defr d B)) : ∀ σ w a, Rel P σ A w → OK P σ F a o.op.operands.toList → B = A := fun σ w a hR hO => (h σ w a hR hO).1
theorem doFxW_sound (hcw : CwOK P cw) {o : Oper} {F : T Value} {A : AW} {ds : List Deferred} {f : Fx} {K : Value → AW → List Deferred → Prop} (hf : FSem P o F A f) (h : doFxW cw ds f K) : ∃ v B ds', K v B ds' ∧ LSemD P o F A ds v B ds' := by
  cases f with
  | val v B => exact ⟨v, B, ds, h, fx_val hf⟩
  | enter f args B =>
    obtain ⟨v, C, hK, hc⟩ := hcw _ _ _ _ h
    exact ⟨v, C, ds, hK, fx_enter hf hc (fs_same hf)⟩
  | defr d B => exact ⟨_, B, _, h, fx_defr hf (fd_same hf)⟩
theorem doFxD_sound (hcw : CwOK P cw) {o : Oper} {F : T Value} {A : AW} {f : Fx} {K : Value → AW → Prop} (hf : FSem P o F A f) (h : doFxD cw f K) : ∃ v B, K v B ∧ LSem P o F A v B := by
  cases f with
  | val v B => exact ⟨v, B, h, fun σ w a ds => fx_val (ds := ds) hf σ w a⟩
  | enter f args B =>
    obtain ⟨v, C, hK, hc⟩ := hcw _ _ _ _ h
    exact ⟨v, C, hK, fun σ w a ds => fx_enter (ds := ds) hf hc (fs_same hf) σ w a⟩
  | defr d B => exact False.elim h
theorem stepW_sound (hcw : CwOK P cw) {all : List Oper} {o : Oper} {s : St} {K : St → Prop} (h : stepW P cw N all o s K) : ∃ s', K s' ∧ ∀ (i : Nat) (σ : Sg) (a : Act) (w : World), (⟨all⟩ : Array Oper)[i]? = some o → SR P N σ s a w →
    ∀ (Kw : Act → World → Prop) (Q : Exit → Act → World → Prop), (∀ σ' a' w', SR P N σ' s' a' w' → Step σ s.A w σ' s'.A w' → Kw a' w') → wpOp P ⟨all⟩ Q i Kw a w := by
  unfold stepW at h
  rw [cpo_iff] at h
  obtain ⟨b, hb, h⟩ := h
  cases b with
  | false =>
    obtain ⟨F, hF, hK⟩ := cpo_iff.1 h
    refine ⟨_, hK, fun i σ a w ho hS Kw Q hn => ?_⟩
    have hw : Region.wanted o (yielded ⟨all⟩ a.tmps) = false := wanted_run (σ := σ) hb fun j want d _ _ v hv => hS.fr.get d v hv
    unfold wpOp
    simp only [ho, hw, Bool.false_eq_true, if_false]
    exact hn σ _ w ⟨hS.fr.put hF .undef, hS.rel, by rw [put_defs]; exact hS.ds⟩ (.refl hS.rel.lim)
  | true =>
    have h : (Bool.rec (symQ P o.op s.F s.A.heap fun v => cpo (putF N s.F o.dst v) fun F => K ⟨F, s.A, s.ds⟩)
      (symE P o.op s.F s.A fun f => doFxW cw s.ds f fun v A ds => cpo (putF N s.F o.dst v) fun F => K ⟨F, A, ds⟩) (isE P o.op) : Prop) := h
    cases hi : isE P o.op with
    | false =>
      rw [hi] at h
      obtain ⟨v, hK, hQ⟩ := symQ_sound (show symQ P o.op s.F s.A.heap _ from h)
      obtain ⟨F, hF, hK⟩ := cpo_iff.1 hK
      refine ⟨_, hK, fun i σ a w ho hS Kw Q hn => ?_⟩
      have hw : Region.wanted o (yielded ⟨all⟩ a.tmps) = true := wanted_run (σ := σ) hb fun j want d _ _ v hv => hS.fr.get d v hv
      unfold wpOp
      simp only [ho, hw, if_true]
      refine .inl ?_
      obtain ⟨v', h1, h2⟩ := hQ σ w a hS.rel (hS.fr.ok hS.rel.glob _)
      unfold Oper.wp
      rw [h2, Oper.upon_value]
      exact hn σ _ w ⟨hS.fr.put hF h1, hS.rel, by rw [put_defs]; exact hS.ds⟩ (.refl hS.rel.lim)
    | true =>
      rw [hi] at h
      obtain ⟨f, h, hf⟩ := symE_sound (show symE P o.op s.F s.A _ from h)
      obtain ⟨v, B, ds', hK, hL⟩ := doFxW_sound hcw hf h
      obtain ⟨F, hF, hK⟩ := cpo_iff.1 hK
      refine ⟨_, hK, fun i σ a w ho hS Kw Q hn => ?_⟩
      have hw : Region.wanted o (yielded ⟨all⟩ a.tmps) = true := wanted_run (σ := σ) hb fun j want d _ _ v hv => hS.fr.get d v hv
      unfold wpOp
      simp only [ho, hw, if_true]
      refine .inl ?_
      refine hL σ w a hS.rel (hS.fr.ok hS.rel.glob _) hS.ds _ _ fun v' a' σ' w' ht hd hv' hR' hS' => ?_
      refine hn σ' _ w' ⟨?_, hR', by rw [put_defs]; exact hd⟩ hS'
      have hf := (hS.fr.sub (hS'.sub hS.rel.lim))
      have : FrR N σ' s.F a' := ⟨by rw [ht]; exact hf.size, by rw [ht]; exact hf.get⟩
      exact this.put hF hv'
theorem seqW_sound (hcw : CwOK P cw) {all : List Oper} : ∀ (os : List Oper) (i : Nat) (s : St) (K : St → Prop), all.drop i = os → seqW P cw N all os s K → ∃ s', K s' ∧ ∀ (σ : Sg) (a : Act) (w : World), SR P N σ s a w →
    ∀ (Q : Exit → Act → World → Prop), (∀ σ' a' w', SR P N σ' s' a' w' → Step σ s.A w σ' s'.A w' → Q .normal a' w') → wpOps P ⟨all⟩ Q (List.range' i os.length) a w := by
  intro os
  induction os with
  | nil => intro i s K _ h; exact ⟨s, h, fun σ a w hS Q hQ => hQ σ a w hS (.refl hS.rel.lim)⟩
  | cons o os ih =>
    intro i s K hd h
    have h : stepW P cw N all o s fun s' => seqW P cw N all os s' K := h
    obtain ⟨s1, h1, hop⟩ := stepW_sound hcw h
    obtain ⟨s', hK, hrest⟩ := ih (i + 1) s1 K (by
      have := congrArg (List.drop 1) hd
      simpa [List.drop_drop, Nat.add_comm] using this) h1
    refine ⟨s', hK, fun σ a w hS Q hQ => ?_⟩
    have ho : (⟨all⟩ : Array Oper)[i]? = some o := by
      have : all[i]? = some o := by
        have := congrArg (fun l => l[0]?) hd
        simpa using this
      simpa using this
    rw [List.length_cons, List.range'_succ, wpOps_cons]
    exact hop i σ a w ho hS _ _ fun σ1 a1 w1 hS1 hst => hrest σ1 a1 w1 hS1 Q fun σ' a' w' hS' hst' => hQ σ' a' w' hS' (hst.trans hst')
end Go.Ev
end

/- The evaluator with variables: regions whose order is drawn. -/
section
set_option linter.unusedSectionVars false
namespace Go.Ev
variable {P : Program} {N : Nat} {cw : CW} [Frozen P]
def Kept (P : Program) [Frozen P] (all : List Oper) (k : Nat) (As : List AW) (hs : List (Option Nat)) (rs : List Rc) : Prop := ∀ (i : Nat) (r : Rc), rs[i]? = some r → r.loud = false → hs[i]? = some none → wantedA all r.o r.F = some true → k ≤ r.at_ ∧ ∃ A1, As[r.at_ - k]? = some A1 ∧ symQ P r.o.op r.F A1.heap fun u => u = r.v
theorem passW_sound (hcw : CwOK P cw) {call : Caller} {all : List Oper} : ∀ (os : List Oper) (hs : List (Option Nat)) (k : Nat) (s : St) (K : PassK), passW P cw N all os hs k s K →
    ∃ rs As s', s'.ds = s.ds ∧ Passed P call N all s.ds os hs k s.F s.A rs As s'.F s'.A ∧ Kept P all k (s.A :: As) hs rs ∧ K rs As s' := by
  intro os
  induction os with
  | nil => intro hs k s K h; exact ⟨[], [], s, rfl, .nil, fun i r hr => by simp at hr, h⟩
  | cons o os ih =>
    intro hs k s K h
    cases hs with
    | nil => exact False.elim h
    | cons h0 hs =>
      have h : oneW P cw N all o h0 k s (passW P cw N all os hs) K := h
      unfold oneW at h
      rw [cpo_iff] at h
      obtain ⟨b, hb, h⟩ := h
      have quiet : ∀ v, What P call all s.ds o s.F s.A h0 v s.A false → (h0 = none → b = true → symQ P o.op s.F s.A.heap fun u => u = v) → quietW N o v k s (passW P cw N all os hs) K → ∃ rs As s', s'.ds = s.ds ∧ Passed P call N all s.ds (o :: os) (h0 :: hs) k s.F s.A rs As s'.F s'.A ∧ Kept P all k (s.A :: As) (h0 :: hs) rs ∧ K rs As s' := by
        intro v hw hkeep hq
        obtain ⟨F, hF, hq⟩ := cpo_iff.1 hq
        obtain ⟨rs, As, s', e, hp, hk, hK⟩ := ih _ _ _ _ hq
        refine ⟨_, As, s', e, .quiet hw hF hp, ?_, hK⟩
        intro i r hr hl hh hwt
        cases i with
        | zero =>
          simp at hr hh; subst hr
          simp only at hwt
          rw [hb] at hwt
          exact ⟨Nat.le_refl _, s.A, by simp, hkeep hh (Option.some.inj hwt)⟩
        | succ i =>
          have := hk i r (by simpa using hr) hl (by simpa using hh) hwt
          exact this
      have eff : ∀ v B, What P call all s.ds o s.F s.A h0 v B true → effW N o v B k s (passW P cw N all os hs) K → ∃ rs As s', s'.ds = s.ds ∧ Passed P call N all s.ds (o :: os) (h0 :: hs) k s.F s.A rs As s'.F s'.A ∧ Kept P all k (s.A :: As) (h0 :: hs) rs ∧ K rs As s' := by
        intro v B hw hq
        obtain ⟨F, hF, hq⟩ := cpo_iff.1 hq
        obtain ⟨rs, As, s', e, hp, hk, hK⟩ := ih _ _ _ _ hq
        refine ⟨_, B :: As, s', e, .loud hw hF hp, ?_, hK⟩
        intro i r hr hl hh hwt
        cases i with
        | zero => simp at hr; subst hr; cases hl
        | succ i =>
          obtain ⟨k1, A1, k2, k3⟩ := hk i r (by simpa using hr) hl (by simpa using hh) hwt
          have k1 : k + 1 ≤ r.at_ := k1
          refine ⟨by omega, A1, ?_, k3⟩
          have e1 : r.at_ - k = (r.at_ - Nat.succ k) + 1 := by have : Nat.succ k = k + 1 := rfl; omega
          rw [e1, List.getElem?_cons_succ]; exact k2
      cases b with
      | false =>
        have h : (Bool.rec (quietW N o (.tuple #[]) k s (passW P cw N all os hs) K) (effW N o (.tuple #[]) s.A k s (passW P cw N all os hs) K) (loudB P o) : Prop) := h
        have hw := What.off (P := P) (call := call) (ds := s.ds) (A := s.A) (h := h0) hb
        cases hl : loudB P o with
        | false => rw [hl] at h hw; exact quiet _ hw (fun _ e => by cases e) h
        | true => rw [hl] at h hw; exact eff _ _ hw h
      | true =>
        have h : wantW P cw N o h0 k s (passW P cw N all os hs) K := h
        cases h0 with
        | some id =>
          have h : cpo (madeV P s.F o.op id) fun v => quietW N o v k s (passW P cw N all os hs) K := h
          rw [cpo_iff] at h
          obtain ⟨v, hv, h⟩ := h
          exact quiet v (.made id hb rfl hv) (fun e => by cases e) h
        | none =>
          have h : (Bool.rec (symQ P o.op s.F s.A.heap fun v => quietW N o v k s (passW P cw N all os hs) K) (cpb (bnot (softO P o.op)) (symE P o.op s.F s.A fun f => doFxD cw f fun v A => effW N o v A k s (passW P cw N all os hs) K)) (isE P o.op) : Prop) := h
          cases hi : isE P o.op with
          | false =>
            rw [hi] at h
            obtain ⟨v, h1, h2⟩ := symQ_dm.det _ (show symQ P o.op s.F s.A.heap _ from h)
            obtain ⟨v', e, hq⟩ := symQ_sound h2
            subst e
            exact quiet v' (.quiet hb rfl hi hq) (fun _ _ => h2) h1
          | true =>
            rw [hi] at h
            obtain ⟨hso, h⟩ := cpb_iff.1 (show cpb (bnot (softO P o.op)) _ from h)
            have hso : softO P o.op = false := by
              cases hx : softO P o.op with
              | false => rfl
              | true => rw [hx] at hso; cases hso
            obtain ⟨f, h1, hf⟩ := symE_sound (show symE P o.op s.F s.A _ from h)
            obtain ⟨v, B, hK, hL⟩ := doFxD_sound hcw hf h1
            exact eff v B (.loud hb rfl hi hso hL) hK
theorem winW_get {all : List Oper} {r : Rc} {h : Option Nat} {lo hi : Nat} {Ao : AW} : ∀ {As : List AW} {k : Nat}, winW P all r h lo hi Ao As k → ∀ (m : Nat) (A : AW), As[m]? = some A → lo ≤ k + m → k + m ≤ hi → isOwn h r (k + m) = false → againW P r h Ao A := by
  intro As
  induction As with
  | nil => intro k _ m A h; simp at h
  | cons B As ih =>
    intro k h5 m A hA h1 h2 h3
    have h5 : (Bool.rec (winW P all r h lo hi Ao As (Nat.succ k)) (againW P r h Ao B ∧ winW P all r h lo hi Ao As (Nat.succ k)) (Nat.ble lo k && (Nat.ble k hi && bnot (isOwn h r k))) : Prop) := h5
    cases m with
    | zero =>
      simp at hA; subst hA
      have : (Nat.ble lo k && (Nat.ble k hi && bnot (isOwn h r k))) = true := by
        rw [Bool.and_eq_true, Bool.and_eq_true, bnot_eq]
        exact ⟨bleIff.2 h1, bleIff.2 h2, by rw [Nat.add_zero] at h3; rw [h3]; rfl⟩
      rw [this] at h5
      exact h5.1
    | succ m =>
      have hrest : winW P all r h lo hi Ao As (Nat.succ k) := by
        generalize (Nat.ble lo k && (Nat.ble k hi && bnot (isOwn h r k))) = b at h5
        cases b with
        | false => exact h5
        | true => exact h5.2
      have e : Nat.succ k + m = k + (m + 1) := by have : Nat.succ k = k + 1 := rfl; omega
      exact ih hrest m A (by simpa using hA) (by omega) (by omega) (by rw [e]; exact h3)
theorem winsW_get {all : List Oper} {es : List (Nat × Nat)} {As : List AW} : ∀ {rs : List Rc} {hs : List (Option Nat)} {ms : List Nat} {i0 : Nat}, winsW P all es As rs hs ms i0 → ∀ (i : Nat) (r : Rc) (h : Option Nat) (m : Nat), rs[i]? = some r → hs[i]? = some h → ms[i]? = some m → r.loud = false → wantedA all r.o r.F = some true →
    ∃ Ao, As[r.at_]? = some Ao ∧ winW P all r h (loOf m es 0 0) (hiOf (i0 + i) es 0) Ao As 0 := by
  intro rs
  induction rs with
  | nil => intro hs ms i0 _ i r h m hr; simp at hr
  | cons r0 rs ih =>
    intro hs ms i0 hw i r h m hr hh hm hl hwt
    cases hs with
    | nil => exact False.elim hw
    | cons h0 hs => cases ms with
      | nil => exact False.elim hw
      | cons m0 ms =>
        have hw : (Bool.rec (cpo (wantedA all r0.o r0.F) fun b => Bool.rec True (cpo (lget As r0.at_) fun Ao => winW P all r0 h0 (loOf m0 es 0 0) (hiOf i0 es 0) Ao As 0) b) True r0.loud : Prop) ∧ winsW P all es As rs hs ms (Nat.succ i0) := hw
        cases i with
        | zero =>
          simp at hr hh hm; subst hr hh hm
          have h1 := hw.1
          rw [hl, hwt] at h1
          have h1 : cpo (lget As r0.at_) fun Ao => winW P all r0 h0 (loOf m0 es 0 0) (hiOf i0 es 0) Ao As 0 := h1
          rw [cpo_iff, lget_eq] at h1
          exact h1
        | succ i =>
          have := ih hw.2 i r h m (by simpa using hr) (by simpa using hh) (by simpa using hm) hl hwt
          have e : Nat.succ i0 + i = i0 + (i + 1) := by have : Nat.succ i0 = i0 + 1 := rfl; omega
          rw [e] at this; exact this
theorem drawW_sound (hcw : CwOK P cw) (hmix : P.follows .mixedOrders = true) {all : List Oper} {id : Nat} {s : St} {K : St → Prop} (h : drawW P cw N all s K) : ∃ s', K s' ∧ ∀ (σ : Sg) (a : Act) (w : World), SR P N σ s a w →
    ∀ (Q : Exit → Act → World → Prop), (∀ σ' a' w', SR P N σ' s' a' w' → Step σ s.A w σ' s'.A w' → Q .normal a' w') → (Code.region id ⟨all⟩ true).wp P Q a w := by
  unfold drawW at h
  rw [cpb_iff, cpo_iff] at h
  obtain ⟨hreg, ⟨hs, A1⟩, hh, h⟩ := h
  obtain ⟨rs, As, s', hds, hp, hk, hw, hK⟩ := passW_sound (call := fun _ _ _ => none) hcw _ _ _ _ _ h
  simp only at hds hp hk hw
  have hRO := regOk_ok hreg
  have hho := hoist_ok _ _ _ _ hh
  refine ⟨s', hK, fun σ a w hS Q hQ => ?_⟩
  refine ctx_wp (call := fun _ _ _ => none) hmix hS (C := ⟨hp, hRO, hho, ?_⟩) fun σ' a' w' hSR hst => hQ σ' a' w' ⟨hSR.fr, hSR.rel, by rw [hds]; exact hSR.ds⟩ hst
  intro i r h q hr hl hh' hq k Ac hAc h1 h2 hown
  refine .inr fun hb => ?_
  obtain ⟨Ao, hAo, hwin⟩ := winsW_get hw i r h q hr hh' hq hl hb
  rw [Nat.zero_add] at hwin
  have hag := winW_get hwin k Ac hAc (by omega) (by omega) (by simpa using hown)
  cases h with
  | some id =>
    have hag : cpb (freshAt P r.F r.o.op id Ac.heap) True := hag
    exact (cpb_iff.1 hag).1
  | none =>
    have hag : cpo (looksAt P r.F r.o.op) fun x => Option.rec True (fun b => Ac.heap.get b = Ao.heap.get b) x := hag
    obtain ⟨x, hx, hag⟩ := cpo_iff.1 hag
    obtain ⟨_, A2, hA2, hq2⟩ := hk i r hr hl hh' hb
    rw [Nat.sub_zero] at hA2
    rw [hA2] at hAo; cases hAo
    have hq3 : symQ P r.o.op r.F Ac.heap fun u => u = r.v := by
      rw [← symQ_same (H := Ao.heap) (H' := Ac.heap) hx (fun b e => by subst e; exact hag.symm)]
      exact hq2
    obtain ⟨v, e, hv⟩ := symQ_sound hq3
    rw [← e]; exact hv
end Go.Ev
end
