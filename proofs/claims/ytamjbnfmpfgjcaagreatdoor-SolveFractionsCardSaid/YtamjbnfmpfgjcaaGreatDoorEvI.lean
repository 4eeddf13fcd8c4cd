/- The evaluator: maps, conversions, lengths; every quiet operation. -/
import Derived.Test.YtamjbnfmpfgjcaaGreatDoorEvH
namespace Go.Ev
variable {P : Program} {σ : Sg} {A : AW} {w : World}

/- Maps. -/
inductive FR2 (σ : Sg) : Option (Nat × Value) → Option (Nat × Value) → Prop
  | none : FR2 σ none none
  | some {i : Nat} {v v' : Value} : VR σ v v' → FR2 σ (some (i, v)) (some (i, v'))
theorem findNow_run {kd : TypeDesc} {k : Value} : ∀ {es es' : List MapEntry} {n : Nat} {r : Option (Nat × Value)}, ER σ es es' → Instr.findNow kd k es n = some r → ∃ r', Instr.findNow kd k es' n = some r' ∧ FR2 σ r r' := by
  intro es
  induction es with
  | nil => intro es' n r he h; cases he; simp only [Instr.findNow] at h; cases h; exact ⟨none, rfl, .none⟩
  | cons e es ih =>
    intro es' n r he h
    cases he with
    | @cons _ e' _ l' h1 h2 h3 h4 h5 =>
      simp only [Instr.findNow, h1] at h ⊢
      cases hs : Instr.sameNow kd k e.key with
      | none => rw [hs] at h; cases h
      | some b =>
        rw [hs] at h
        cases b with
        | true => cases h; exact ⟨_, rfl, .some h3⟩
        | false => exact ih h5 h
theorem checkKey_run {b : Bool} {kt : TypeId} {kd : TypeDesc} {k : Value} (hu : P.underlying kt = some kd) (hk : keyD kd = true) (w : World) : (Instr.checkKey b 10000 kt k).run P w = .ok () w := by
  obtain ⟨n, hn⟩ : ∃ n, 10000 = n + 1 := ⟨9999, rfl⟩
  rw [hn]
  unfold Instr.checkKey
  simp only [Sem.run_bind, run_under hu, Result.andThen_ok]
  cases kd <;> first | (cases hk; done) | rfl
theorem findKey_run {kt : TypeId} {kd : TypeDesc} {k : Value} {es : List MapEntry} {r : Option (Nat × Value)} (hu : P.underlying kt = some kd) (h : Instr.findNow kd k es 0 = some r) (w : World) : (Instr.findKey kt k es).run P w = .ok r w := by
  simp [Instr.findKey, run_under hu, h]
theorem run_getMap {r k : Nat} {es : Array MapEntry} (h : w.heap[r]? = some (.map es k)) : (getObj r).run P w = .ok (.map es k) w := by simp [getObj, Sem.run, h]
theorem okV_some {ok : Bool} {v u : Value} {b : Bool} (h : okV ok v b = some u) : u = if ok then .tuple #[v, .bool b] else v := by cases ok <;> (cases h; rfl)
theorem VR.ok {ok : Bool} {v v' : Value} {b : Bool} (h : VR σ v v') : VR σ (if ok then .tuple #[v, .bool b] else v) (if ok then .tuple #[v', .bool b] else v') := by
  cases ok
  · exact h
  · exact .tuple (.cons h (.cons (.flat rfl) .nil))
theorem mapV_some {v : Value} {m : Option Nat} : mapV v = some m ↔ v = .map m := by cases v <;> simp [mapV]
theorem entriesA_some {H : T AO} {m : Value} {es : List MapEntry} : entriesA H m = some es ↔ (m = .map none ∧ es = []) ∨ ∃ r k, m = .map (some r) ∧ H.get r = some (.map es k) := by
  simp only [entriesA, ob_some, mapV_some]
  constructor
  · rintro ⟨r, rfl, h⟩
    cases r with
    | none => cases h; exact .inl ⟨rfl, rfl⟩
    | some r =>
      have h' : (mapAt H r fun es _ => some es) = some es := h
      rw [mapAt_some] at h'
      obtain ⟨es', k, hg, h'⟩ := h'
      cases h'
      exact .inr ⟨r, k, rfl, hg⟩
  · rintro (⟨rfl, rfl⟩ | ⟨r, k, rfl, hg⟩)
    · exact ⟨none, rfl, rfl⟩
    · exact ⟨some r, rfl, mapAt_some.2 ⟨es, k, hg, rfl⟩⟩
theorem lookupA_run (hR : Rel P σ A w) {t : TypeId} {m m' k k' u : Value} {ok : Bool} (h : lookupA P A.heap t m k ok = some u) (hm : VR σ m m') (hk : VR σ k k') :
    ∃ u', VR σ u u' ∧ (Instr.lookup t m' k' ok).run P w = .ok u' w := by
  simp only [lookupA, ob_some, bt_some, mapT_some, entriesA_some] at h
  obtain ⟨⟨kt, et⟩, ht, hf, kd, hkd, hkk, es, hes, r, hr, h⟩ := h
  obtain rfl := hk.of_flat hf
  simp only at ht hkd
  rcases hes with ⟨rfl, rfl⟩ | ⟨b0, c, rfl, hg⟩
  · obtain rfl := hm.of_flat rfl
    simp only [Instr.findNow] at hr
    cases hr
    have h' : (ob (zero2 P et) fun z => okV ok z false) = some u := h
    simp only [ob_some, zero2, bt_some, Option.some.injEq] at h'
    obtain ⟨z, ⟨i, hi, z', hz, hz2, rfl⟩, ho⟩ := h'
    rw [okV_some ho]
    have hzr : (zeroValue et).run P w = .ok z' w := by simp [zeroValue, run_info hi, hz]
    have hfk := findKey_run (P := P) (es := []) (k := k') hkd rfl w
    exact ⟨_, VR.ok (.refl_flat2 hz2), by simp [Instr.lookup, run_under ht, checkKey_run hkd hkk, hfk, hzr]⟩
  · obtain ⟨b, d, hs, rfl⟩ := hm.map_inv
    obtain ⟨es', hw, he⟩ := hR.map hs hg
    obtain ⟨r', hr', hfr⟩ := findNow_run he hr
    have hfk := findKey_run (P := P) hkd hr' w
    cases hfr with
    | none =>
      have h' : (ob (zero2 P et) fun z => okV ok z false) = some u := h
      simp only [ob_some, zero2, bt_some, Option.some.injEq] at h'
      obtain ⟨z, ⟨i, hi, z', hz, hz2, rfl⟩, ho⟩ := h'
      rw [okV_some ho]
      have hzr : (zeroValue et).run P w = .ok z' w := by simp [zeroValue, run_info hi, hz]
      exact ⟨_, VR.ok (.refl_flat2 hz2), by simp [Instr.lookup, run_under ht, run_getMap hw, checkKey_run hkd hkk, hfk, hzr]⟩
    | some hv =>
      rename_i i v v'
      rw [okV_some (show okV ok v true = some u from h)]
      exact ⟨_, VR.ok hv, by simp [Instr.lookup, run_under ht, run_getMap hw, checkKey_run hkd hkk, hfk]⟩
theorem ER.length {es es' : List MapEntry} (h : ER σ es es') : es'.length = es.length := by
  induction es generalizing es' with
  | nil => cases h; rfl
  | cons e es ih => cases h with | cons _ _ _ _ h5 => simp [ih h5]

/- Lengths. -/
theorem goInt_nat (n : Nat) : goInt (n : Int) = .int .i64 (.ofNat n) := rfl
theorem lenA_run (hR : Rel P σ A w) {t : TypeId} {x x' u : Value} (h : lenA P A.heap t x = some u) (hx : VR σ x x') (ts : List TypeId) (ty : TypeId) (as_ : List Value) :
    flat u = true ∧ (Builtin.len_ ⟨t :: ts⟩ ty ⟨x' :: as_⟩).run P w = .ok u w := by
  simp only [lenA, ob_some] at h
  obtain ⟨d, hd, h⟩ := h
  split at h
  · simp only [ob_some, strV_some, natV_eq, Option.some.injEq] at h
    obtain ⟨s, rfl, rfl⟩ := h
    obtain rfl := hx.of_flat rfl
    exact ⟨rfl, by simp [Builtin.len_, run_under hd, mkStr]; rfl⟩
  · split at h
    · rw [natV_eq] at h; cases h
      refine ⟨rfl, ?_⟩
      cases hx with
      | slice e => simp [Builtin.len_, run_under hd]; rfl
      | flat e => simp [Builtin.len_, run_under hd]; rfl
    · cases h
  · rw [natV_eq] at h; cases h
    exact ⟨rfl, by simp [Builtin.len_, run_under hd]; rfl⟩
  · simp only [ob_some, entriesA_some, natV_eq, Option.some.injEq] at h
    obtain ⟨es, hes, rfl⟩ := h
    refine ⟨rfl, ?_⟩
    rcases hes with ⟨rfl, rfl⟩ | ⟨r, k, rfl, hg⟩
    · obtain rfl := hx.of_flat rfl
      simp [Builtin.len_, run_under hd]; rfl
    · obtain ⟨b, d, hs, rfl⟩ := hx.map_inv
      obtain ⟨es', hw, he⟩ := hR.map hs hg
      have hl := he.length
      simp [Builtin.len_, run_under hd, run_getMap hw]
      rw [show es'.size = es.length by simpa using hl]
      rfl
  · cases h
theorem capA_run (hR : Rel P σ A w) {t : TypeId} {x x' u : Value} (h : capA P A.heap t x = some u) (hx : VR σ x x') (ts : List TypeId) (ty : TypeId) (as_ : List Value) :
    flat u = true ∧ (Builtin.cap_ ⟨t :: ts⟩ ty ⟨x' :: as_⟩).run P w = .ok u w := by
  simp only [capA, ob_some, sliceT_some] at h
  obtain ⟨e, hd, h⟩ := h
  split at h
  · rename_i a l n
    cases a with
    | none =>
      have h' : natV .i64 n = some u := h
      rw [natV_eq] at h'; cases h'
      refine ⟨rfl, ?_⟩
      cases hx with
      | flat e => simp [Builtin.cap_, run_under hd]; rfl
    | some a =>
      have h' : (rowAt A.heap a.block fun _ _ m => bt (bnot m.roomy) (natV .i64 n)) = some u := h
      simp only [rowAt_some, bt_some, natV_eq, Option.some.injEq, bnot_eq] at h'
      obtain ⟨c, e', m, hg, hrm, rfl⟩ := h'
      have hrm : m.roomy = false := by simpa using hrm
      refine ⟨rfl, ?_⟩
      cases hx with
      | flat e => simp [flat] at e
      | slice hs =>
        obtain ⟨c', e', fz, hw, hr, _⟩ := hR.rowA hs hg
        obtain rfl := hr.exact_ hrm
        simp [Builtin.cap_, run_under hd]; rfl
  · cases h

/- Conversions. -/
theorem convInt_run {s d : TypeId} {k : IntKind} {n : Int} {u : Value} (h : convInt P s d n = some u) (w : World) : flat u = true ∧ (convert s d (.int k n)).run P w = .ok u w := by
  simp only [convInt, ob_some] at h
  obtain ⟨sd, hs, dd, hd, kk, hk, h⟩ := h
  have hdd : dd = .int kk := by cases dd <;> simp [intD] at hk; rw [hk]
  subst hdd
  have hc : (convert s d (.int k n)).run P w = (Conv.intToInt kk n).run P w := by
    simp only [convert, Sem.run_bind, run_under hs, run_under hd, Result.andThen_ok]
  rw [hc]
  cases n with
  | negSucc m => have h' : flatPure P (Conv.intToInt kk (.negSucc m)) = some u := h; have := flatPure_run h'; exact ⟨this.1, this.2 w⟩
  | ofNat m =>
    have h' : (Bool.rec (flatPure P (Conv.intToInt kk (.ofNat m))) (natV kk m) (Nat.blt m (lim kk)) : Option Value) = some u := h
    cases hb : Nat.blt m (lim kk) with
    | false => rw [hb] at h'; have h'' : flatPure P (Conv.intToInt kk (.ofNat m)) = some u := h'; have := flatPure_run h''; exact ⟨this.1, this.2 w⟩
    | true =>
      rw [hb] at h'
      have h'' : natV kk m = some u := h'
      have hw : within kk m = some u := by unfold within; rw [hb]; exact h''
      rw [within_wrap hw]
      exact ⟨rfl, rfl⟩
theorem shape_of {b : Nat} {c' : Array Value} {e : TypeId} {fz : Nat × Nat} (h : w.heap[b]? = some (.cells c' e fz)) : w.shape? b = some (e, c'.size) := by simp [World.shape?, h]
theorem seenAt_run {b o : Nat} {c' : Array Value} {e : TypeId} {fz : Nat × Nat} (h : w.heap[b]? = some (.cells c' e fz)) : (Conv.seenAt ⟨b, o, none⟩).run P w = .ok ⟨b, o, none⟩ w := by
  simp [Conv.seenAt, viewAt, shape_of h]
theorem unsafeD_eq {d : TypeDesc} (h : unsafeD d = true) : d = .unsafePointer := by cases d <;> first | rfl | (cases h)
theorem RowR.exactly {d : Nat} {c : List Value} {e : TypeId} {m : Md} {c' : Array Value} {fz : Nat × Nat} (h : RowR P σ d c e m c' fz) (hm : m.roomy = false) : c'.size = c.length := by
  obtain ⟨cs, x, ec, hc, hx⟩ := h.cells
  rw [hx hm, List.append_nil] at ec
  rw [← hc.length, ← ec]; simp
theorem ptrConv_run (hR : Rel P σ A w) {s d : TypeId} {a : Addr} {x' u : Value} (h : ptrConvA P A.heap s d a = some u) (hx : VR σ (.pointer (some a)) x') : ∃ u', VR σ u u' ∧ (convert s d x').run P w = .ok u' w := by
  have hor : ptrOut P A.heap s d a = some u ∨ ptrIn P A.heap s d a = some u := by
    unfold ptrConvA at h
    cases ho : ptrOut P A.heap s d a with
    | some v => rw [ho] at h; exact .inl h
    | none => rw [ho] at h; exact .inr h
  rcases hor with h | h
  · simp only [ptrOut, ob_some, bt_some, ptrT_some, plainAt_some, rowAt_some, blt_iff, Option.some.injEq, bnot_eq, lget_eq] at h
    obtain ⟨t, hs, dd, hd, hud, n, hn, hn0, ha, c, e, m, hg, hrm, v, hv, rfl⟩ := h
    have := unsafeD_eq hud; subst this
    have hrm : m.roomy = false := by simpa using hrm
    rw [ha] at hx ⊢
    obtain ⟨b, dl, hsb, rfl⟩ := hx.ptr_inv
    obtain ⟨c', e', fz, hw, hr, _⟩ := hR.rowA hsb hg
    refine ⟨_, .ptr hsb, ?_⟩
    have hlt : a.off < c'.size := by
      rw [hr.exactly hrm]
      rcases Nat.lt_or_ge a.off c.length with h' | h'
      · exact h'
      · rw [List.getElem?_eq_none h'] at hv; cases hv
    have hn1 : n ≠ 0 := by omega
    simp only [convert, Sem.run_bind, run_under hs, run_under hd, Result.andThen_ok, Conv.unsafePointer, seenAt_run hw, cellsIn, run_shape, shape_of hw, Sem.run_pure, run_size hn]
    simp [hn1]
    omega
  · simp only [ptrIn, ob_some, bt_some, ptrT_some, plainAt_some, rowAt_some, Option.some.injEq, bnot_eq] at h
    obtain ⟨dd, hs, hud, t, hd, n, hn, ha, c, e, m, hg, hmw, hrm, hl, rfl⟩ := h
    have := unsafeD_eq hud; subst this
    have hrm : m.roomy = false := by simpa using hrm
    rw [ha] at hx ⊢
    obtain ⟨b, dl, hsb, rfl⟩ := hx.ptr_inv
    obtain ⟨c', fz, hw, hr⟩ := hR.row hsb hg hmw
    refine ⟨_, .ptr hsb, ?_⟩
    have hl' : liesAt P P.depth e (c'.size / P.cellsOf e) a.off t 1 = true := by rw [hr.exactly hrm]; exact hl
    simp [convert, run_under hs, run_under hd, Conv.unsafePointer, seenAt_run hw, run_size hn, variablesAt, shape_of hw, hl']
end Go.Ev
