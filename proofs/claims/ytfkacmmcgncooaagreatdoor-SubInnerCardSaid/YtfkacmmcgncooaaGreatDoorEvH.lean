/- The evaluator: slices, maps, conversions, lengths. -/
import Derived.Test.YtfkacmmcgncooaaGreatDoorEvD
section
set_option linter.unusedSectionVars false
namespace Go.Ev
variable {P : Program} {σ : Sg} {A : AW} {w : World} [Frozen P]
inductive OVR (σ : Sg) : Option Value → Option Value → Prop
  | none : OVR σ none none
  | some {v v' : Value} : VR σ v v' → OVR σ (some v) (some v')
theorem upto_some {v : Value} {n i : Nat} : upto v n = some i ↔ (∃ k, v = .int k (.ofNat i)) ∧ i ≤ n := by
  simp only [upto, ob_some, bt_some, numV_some, bleIff, Option.some.injEq]
  constructor
  · rintro ⟨j, hk, hl, rfl⟩; exact ⟨hk, hl⟩
  · rintro ⟨hk, hl⟩; exact ⟨i, hk, hl, rfl⟩
theorem sliceBound_run {v v' : Value} {n m i : Nat} {code : BoundsCode} (h : upto v n = some i) (hv : VR σ v v') (hm : i ≤ m) (w : World) : (Instr.sliceBound v' m code).run P w = .ok i w := by
  obtain ⟨⟨k, rfl⟩, _⟩ := upto_some.1 h
  obtain rfl := hv.of_flat rfl
  have h1 : (0 : Int) ≤ Int.ofNat i ∧ Int.ofNat i ≤ (m : Int) := ⟨by simp, by simpa using hm⟩
  simp only [Instr.sliceBound, asIntOf, Sem.run_bind, Sem.run_pure, Result.andThen_ok, if_pos h1]
  rfl
theorem bounds_le {len cap l h : Nat} {lo hi : Option Value} (hb : boundsA len cap lo hi = some (l, h)) : l ≤ h := by
  simp only [boundsA, ob_some, Option.some.injEq, Prod.mk.injEq] at hb
  obtain ⟨h', hh, l', hl, rfl, rfl⟩ := hb
  cases lo with
  | none => cases hl; exact Nat.zero_le _
  | some v => exact (upto_some.1 hl).2
theorem bounds_run {b : Bool} {len cap m l h : Nat} {lo hi lo' hi' : Option Value} (hb : boundsA len cap lo hi = some (l, h)) (hlo : OVR σ lo lo') (hhi : OVR σ hi hi') (hm : h ≤ m) (w : World) :
    (Instr.sliceBounds b len m lo' hi' none).run P w = .ok (l, h, m) w := by
  have hle := bounds_le hb
  simp only [boundsA, ob_some, Option.some.injEq, Prod.mk.injEq] at hb
  obtain ⟨h', hh, l', hl, rfl, rfl⟩ := hb
  cases hhi with
  | none =>
    cases hh
    cases hlo with
    | none => cases hl; simp [Instr.sliceBounds]
    | some hv => have := fun c => sliceBound_run (P := P) (code := c) hl hv hle w; simp [Instr.sliceBounds, this]
  | some hv1 =>
    have h1 := fun c => sliceBound_run (P := P) (code := c) hh hv1 hm w
    cases hlo with
    | none => cases hl; simp [Instr.sliceBounds, h1]
    | some hv => have := fun c => sliceBound_run (P := P) (code := c) hl hv hle w; simp [Instr.sliceBounds, h1, this]
theorem bounds3_run {b : Bool} {len cap m l h : Nat} {lo lo' : Option Value} {hv hv' mx mx' : Value} (hmx : upto mx cap = some m) (hb : boundsA len m lo (some hv) = some (l, h)) (hlo : OVR σ lo lo') (hhi : VR σ hv hv') (hmv : VR σ mx mx') (w : World) :
    (Instr.sliceBounds b len cap lo' (some hv') (some mx')).run P w = .ok (l, h, m) w := by
  have hle := bounds_le hb
  simp only [boundsA, ob_some, Option.some.injEq, Prod.mk.injEq] at hb
  obtain ⟨h', hh, l', hl, rfl, rfl⟩ := hb
  have hm' : ∀ c, (Instr.sliceBound mx' cap c).run P w = .ok m w := fun c => sliceBound_run hmx hmv (upto_some.1 hmx).2 w
  have hh' : ∀ c, (Instr.sliceBound hv' m c).run P w = .ok h' w := fun c => sliceBound_run hh hhi (upto_some.1 hh).2 w
  cases hlo with
  | none => cases hl; simp [Instr.sliceBounds, hm', hh']
  | some hv => have := fun c => sliceBound_run (P := P) (code := c) hl hv hle w; simp [Instr.sliceBounds, hm', hh', this]
theorem cutAt_eq (b o l n cap len' : Nat) : cutAt b o l n cap len' = some (.slice (some ⟨b, if cap = l then o else o + l * n, none⟩) len' (cap - l)) := by
  unfold cutAt
  rw [fnat_eq, fnat_eq, fnat_eq]
  have : (Bool.rec (Nat.add o (Nat.mul l n)) o (Nat.beq cap l) : Nat) = if cap = l then o else o + l * n := by
    cases h : Nat.beq cap l with
    | true => rw [if_pos (beqIff.1 h)]
    | false => rw [if_neg (fun e => by rw [beqIff.2 e] at h; cases h)]; rfl
  rw [this]; rfl
theorem sliceA_run (hR : Rel P σ A w) {t : TypeId} {x x' u : Value} {lo lo' hi hi' mx mx' : Option Value} (h : sliceA P A.heap t x lo hi mx = some u) (hx : VR σ x x') (hlo : OVR σ lo lo') (hhi : OVR σ hi hi') (hmx : OVR σ mx mx') :
    ∃ u', VR σ u u' ∧ (Instr.sliceAt t x' lo' hi' mx').run P w = .ok u' w := by
  simp only [sliceA, ob_some] at h
  obtain ⟨d, hd, h⟩ := h
  split at h
  · simp only [ob_some, strV_some] at h
    obtain ⟨s, rfl, h⟩ := h
    obtain rfl := hx.of_flat rfl
    cases hmx with
    | some _ => cases h
    | none =>
      have h' : (fnat s.length fun n => ob (boundsA n n lo hi) fun p => ob (lsub s p.1 (Nat.sub p.2 p.1)) fun b => some (mkStr b)) = some u := h
      rw [fnat_eq] at h'
      simp only [ob_some, Option.some.injEq] at h'
      obtain ⟨⟨l, hh⟩, hb, bs, hs, rfl⟩ := h'
      obtain ⟨rfl, hle⟩ := lsub_some hs
      have hle2 := bounds_le hb
      have hhl : hh ≤ s.length := by have : Nat.sub hh l = hh - l := rfl; simp only at hle hle2; omega
      refine ⟨_, .flat rfl, ?_⟩
      have hb' := bounds_run (P := P) (b := false) hb hlo hhi hhl w
      have hsz : (⟨⟨s⟩⟩ : ByteArray).size = s.length := rfl
      simp only [mkStr, Instr.sliceAt, Instr.slice, Sem.run_bind, run_under hd, Result.andThen_ok, Option.isSome_none, Bool.false_eq_true, if_false, hsz, hb', Sem.run_pure]
      congr 2
      apply ByteArray.ext
      apply Array.toList_inj.1
      rw [ByteArray.data_extract, Array.toList_extract, List.extract_eq_take_drop]
      rfl
  · rename_i e
    unfold sliceL at h
    split at h
    · rename_i a len cap
      rw [ob_some] at h
      obtain ⟨n, hn, h⟩ := h
      cases a with
      | none =>
        have h' : bt (Nat.beq (Nat.add len cap) 0) (sliceN lo hi mx) = some u := h
        rw [bt_some, beqIff] at h'
        obtain ⟨h0, h'⟩ := h'
        have h0' : len + cap = 0 := h0
        obtain ⟨rfl, rfl⟩ : len = 0 ∧ cap = 0 := ⟨by omega, by omega⟩
        obtain rfl := hx.of_flat rfl
        cases hmx with
        | some _ => cases h'
        | none =>
          have h'' : ob (boundsA 0 0 lo hi) (fun _ => some (Value.slice none 0 0)) = some u := h'
          simp only [ob_some, Option.some.injEq] at h''
          obtain ⟨⟨l, hh⟩, hb, rfl⟩ := h''
          have hle2 := bounds_le hb
          have hh0 : hh ≤ 0 := by
            simp only [boundsA, ob_some, Option.some.injEq, Prod.mk.injEq] at hb
            obtain ⟨h', hh', _, _, _, rfl⟩ := hb
            cases hi with
            | none => cases hh'; exact Nat.le_refl 0
            | some v => exact (upto_some.1 hh').2
          have hb' := bounds_run (P := P) (b := true) hb hlo hhi hh0 w
          refine ⟨_, .flat rfl, ?_⟩
          obtain ⟨rfl, rfl⟩ : l = 0 ∧ hh = 0 := ⟨by omega, by omega⟩
          simp [Instr.sliceAt, Instr.slice, run_under hd, hb', run_size hn]
      | some a =>
        have h' : (plainAt a fun b o => rowAt A.heap b fun _ _ m => Option.rec (slice2 m.roomy b o len cap n lo hi) (fun mx => slice3 m.roomy b o len cap n lo hi mx) mx) = some u := h
        rw [plainAt_some, rowAt_some] at h'
        obtain ⟨ha, c, e', m, hg, h'⟩ := h'
        rw [ha] at hx
        obtain ⟨b, dd, hsb, rfl⟩ := hx.slice_inv
        obtain ⟨c', e', fz, hw, hr, _⟩ := hR.rowA hsb hg
        cases hmx with
        | none =>
          have h'' : slice2 m.roomy a.block a.off len cap n lo hi = some u := h'
          simp only [slice2, ob_some, bt_some, bleIff, cutAt_eq] at h''
          obtain ⟨⟨l, hh⟩, hb, hhc, h''⟩ := h''
          simp only at hhc h''
          have hle2 := bounds_le hb
          have hb' := bounds_run (P := P) (b := true) (m := cap + dd) hb hlo hhi (by omega) w
          have hout : (Instr.sliceAt t (.slice (some ⟨b, a.off, none⟩) len (cap + dd)) lo' hi' none).run P w = .ok (.slice (some ⟨b, if cap + dd = l then a.off else a.off + l * n, none⟩) (hh - l) (cap + dd - l)) w := by
            simp only [Instr.sliceAt, Instr.slice, Sem.run_bind, run_under hd, Result.andThen_ok, hb', run_size hn, Sem.run_pure, Option.map_some]
            congr 2
            split <;> simp [add_plain]
          refine ⟨_, ?_, hout⟩
          cases hok : sliceOk m.roomy l cap with
          | false =>
            rw [hok] at h''
            have h3 : bt (Nat.beq hh l) (some empV) = some u := h''
            rw [bt_some, beqIff] at h3
            obtain ⟨rfl, h3⟩ := h3
            cases h3
            rw [Nat.sub_self]
            exact .emp trivial
          | true =>
          rw [hok] at h''
          cases h''
          have he : (if cap + dd = l then a.off else a.off + l * n) = if cap = l then a.off else a.off + l * n := by
            cases hrm : m.roomy with
            | false => rw [hr.exact_ hrm]; rfl
            | true =>
              rw [hrm] at hok
              cases l with
              | zero => simp
              | succ l => have hlt : l + 1 < cap := blt_iff.1 hok; rw [if_neg (by omega), if_neg (by omega)]
          rw [he, show cap + dd - l = (cap - l) + dd by omega]
          exact .slice hsb
        | some hmv =>
          rename_i mv mv'
          have h'' : slice3 m.roomy a.block a.off len cap n lo hi mv = some u := h'
          cases hrm : m.roomy with
          | true => rw [hrm] at h''; cases h''
          | false =>
            rw [hrm] at h''
            have h3 : (ob hi fun hv => ob (upto mv cap) fun m => ob (boundsA len m lo (some hv)) fun p => cutAt a.block a.off p.1 n m (Nat.sub p.2 p.1)) = some u := h''
            simp only [ob_some, cutAt_eq, Option.some.injEq] at h3
            obtain ⟨hv, rfl, mm, hmm, ⟨l, hh⟩, hb, rfl⟩ := h3
            obtain rfl : dd = 0 := hr.exact_ hrm
            cases hhi with
            | some hhv =>
              have hb' := bounds3_run (P := P) (b := true) hmm hb hlo hhv hmv w
              refine ⟨_, .slice hsb, ?_⟩
              simp only [Instr.sliceAt, Instr.slice, Sem.run_bind, run_under hd, Result.andThen_ok, hb', run_size hn, Sem.run_pure, Option.map_some, Nat.add_zero]
              congr 2
              split <;> simp [add_plain]
    · cases h
  · rename_i n e
    simp only [sliceR, ob_some, ptrV_some, plainAt_some, rowAt_some, bt_some] at h
    obtain ⟨a, rfl, ha, sz, hsz, c, e', m, hg, hrm, h⟩ := h
    rw [bnot_eq] at hrm
    have hrm : m.roomy = false := by simpa using hrm
    rw [ha] at hx
    obtain ⟨b, dd, hsb, rfl⟩ := hx.ptr_inv
    obtain ⟨c', e', fz, hw, hr, _⟩ := hR.rowA hsb hg
    obtain rfl : dd = 0 := hr.exact_ hrm
    cases hmx with
    | some _ => cases h
    | none =>
      have h' : (ob (boundsA n n lo hi) fun p => bt (Nat.ble p.2 n) (cutAt a.block a.off p.1 sz n (Nat.sub p.2 p.1))) = some u := h
      simp only [ob_some, bt_some, bleIff, cutAt_eq, Option.some.injEq] at h'
      obtain ⟨⟨l, hh⟩, hb, hhn, rfl⟩ := h'
      have hb' := bounds_run (P := P) (b := false) hb hlo hhi hhn w
      refine ⟨_, .slice hsb, ?_⟩
      simp only [Instr.sliceAt, Instr.sureAddr, Sem.run_bind, run_under hd, Result.andThen_ok, hb', run_size hsz, Sem.run_pure, Nat.add_zero]
      congr 2
      split <;> simp [add_plain]
  · cases h
end Go.Ev
end

/- The evaluator: maps, conversions, lengths; every quiet operation. -/
section
set_option linter.unusedSectionVars false
namespace Go.Ev
variable {P : Program} {σ : Sg} {A : AW} {w : World} [Frozen P]
inductive FR2 (σ : Sg) : Option (Nat × Value) → Option (Nat × Value) → Prop
  | none : FR2 σ none none
  | some {i : Nat} {v v' : Value} : VR σ v v' → FR2 σ (some (i, v)) (some (i, v'))
theorem findNow_run {kd : TypeDesc} {k : Value} : ∀ {es es' : List MapEntry} {n : Nat} {r : Option (Nat × Value)}, ER σ es es' → Instr.findNow kd k es n = some r → ∃ r', Instr.findNow kd k es' n = some r' ∧ FR2 σ r r' := by
  intro es
  induction es with
  | nil => intro es' n r he h; cases he; simp only [Instr.findNow] at h; cases h; exact ⟨none, rfl, .none⟩
  | cons e es ih =>
    intro es' n r he h
    cases he with
    | @cons _ e' _ l' h1 h2 h3 h4 h5 =>
      simp only [Instr.findNow, h1] at h ⊢
      cases hs : Instr.sameNow kd k e.key with
      | none => rw [hs] at h; cases h
      | some b =>
        rw [hs] at h
        cases b with
        | true => cases h; exact ⟨_, rfl, .some h3⟩
        | false => exact ih h5 h
theorem checkKey_run {b : Bool} {kt : TypeId} {kd : TypeDesc} {k : Value} (hu : P.underlying kt = some kd) (hk : keyD kd = true) (w : World) : (Instr.checkKey b 10000 kt k).run P w = .ok () w := by
  obtain ⟨n, hn⟩ : ∃ n, 10000 = n + 1 := ⟨9999, rfl⟩
  rw [hn]
  unfold Instr.checkKey
  simp only [Sem.run_bind, run_under hu, Result.andThen_ok]
  cases kd <;> first | (cases hk; done) | rfl
theorem findKey_run {kt : TypeId} {kd : TypeDesc} {k : Value} {es : List MapEntry} {r : Option (Nat × Value)} (hu : P.underlying kt = some kd) (h : Instr.findNow kd k es 0 = some r) (w : World) : (Instr.findKey kt k es).run P w = .ok r w := by
  simp [Instr.findKey, run_under hu, h]
theorem run_getMap {r k : Nat} {es : Array MapEntry} (h : w.heap[r]? = some (.map es k)) : (getObj r).run P w = .ok (.map es k) w := by simp [getObj, Sem.run, h]
theorem okV_some {ok : Bool} {v u : Value} {b : Bool} (h : okV ok v b = some u) : u = if ok then .tuple #[v, .bool b] else v := by cases ok <;> (cases h; rfl)
theorem VR.ok {ok : Bool} {v v' : Value} {b : Bool} (h : VR σ v v') : VR σ (if ok then .tuple #[v, .bool b] else v) (if ok then .tuple #[v', .bool b] else v') := by
  cases ok
  · exact h
  · exact .tuple (.cons h (.cons (.flat rfl) .nil))
theorem mapV_some {v : Value} {m : Option Nat} : mapV v = some m ↔ v = .map m := by cases v <;> simp [mapV]
theorem entriesA_some {H : T AO} {m : Value} {es : List MapEntry} : entriesA H m = some es ↔ (m = .map none ∧ es = []) ∨ ∃ r k, m = .map (some r) ∧ H.get r = some (.map es k) := by
  simp only [entriesA, ob_some, mapV_some]
  constructor
  · rintro ⟨r, rfl, h⟩
    cases r with
    | none => cases h; exact .inl ⟨rfl, rfl⟩
    | some r =>
      have h' : (mapAt H r fun es _ => some es) = some es := h
      rw [mapAt_some] at h'
      obtain ⟨es', k, hg, h'⟩ := h'
      cases h'
      exact .inr ⟨r, k, rfl, hg⟩
  · rintro (⟨rfl, rfl⟩ | ⟨r, k, rfl, hg⟩)
    · exact ⟨none, rfl, rfl⟩
    · exact ⟨some r, rfl, mapAt_some.2 ⟨es, k, hg, rfl⟩⟩
theorem lookupA_run (hR : Rel P σ A w) {t : TypeId} {m m' k k' u : Value} {ok : Bool} (h : lookupA P A.heap t m k ok = some u) (hm : VR σ m m') (hk : VR σ k k') :
    ∃ u', VR σ u u' ∧ (Instr.lookup t m' k' ok).run P w = .ok u' w := by
  simp only [lookupA, ob_some, bt_some, mapT_some, entriesA_some] at h
  obtain ⟨⟨kt, et⟩, ht, hf, kd, hkd, hkk, es, hes, r, hr, h⟩ := h
  obtain rfl := hk.of_flat hf
  simp only at ht hkd
  rcases hes with ⟨rfl, rfl⟩ | ⟨b0, c, rfl, hg⟩
  · obtain rfl := hm.of_flat rfl
    simp only [Instr.findNow] at hr
    cases hr
    have h' : (ob (zero2 P et) fun z => okV ok z false) = some u := h
    simp only [ob_some, zero2, bt_some, Option.some.injEq] at h'
    obtain ⟨z, ⟨i, hi, z', hz, hz2, rfl⟩, ho⟩ := h'
    rw [okV_some ho]
    have hzr : (zeroValue et).run P w = .ok z' w := by simp [zeroValue, run_info hi, hz]
    have hfk := findKey_run (P := P) (es := []) (k := k') hkd rfl w
    exact ⟨_, VR.ok (.refl_flat2 hz2), by simp [Instr.lookup, run_under ht, checkKey_run hkd hkk, hfk, hzr]⟩
  · obtain ⟨b, d, hs, rfl⟩ := hm.map_inv
    obtain ⟨es', hw, he⟩ := hR.map hs hg
    obtain ⟨r', hr', hfr⟩ := findNow_run he hr
    have hfk := findKey_run (P := P) hkd hr' w
    cases hfr with
    | none =>
      have h' : (ob (zero2 P et) fun z => okV ok z false) = some u := h
      simp only [ob_some, zero2, bt_some, Option.some.injEq] at h'
      obtain ⟨z, ⟨i, hi, z', hz, hz2, rfl⟩, ho⟩ := h'
      rw [okV_some ho]
      have hzr : (zeroValue et).run P w = .ok z' w := by simp [zeroValue, run_info hi, hz]
      exact ⟨_, VR.ok (.refl_flat2 hz2), by simp [Instr.lookup, run_under ht, run_getMap hw, checkKey_run hkd hkk, hfk, hzr]⟩
    | some hv =>
      rename_i i v v'
      rw [okV_some (show okV ok v true = some u from h)]
      exact ⟨_, VR.ok hv, by simp [Instr.lookup, run_under ht, run_getMap hw, checkKey_run hkd hkk, hfk]⟩
theorem ER.length {es es' : List MapEntry} (h : ER σ es es') : es'.length = es.length := by
  induction es generalizing es' with
  | nil => cases h; rfl
  | cons e es ih => cases h with | cons _ _ _ _ h5 => simp [ih h5]
theorem lenA_run (hR : Rel P σ A w) {t : TypeId} {x x' u : Value} (h : lenA P A.heap t x = some u) (hx : VR σ x x') (ts : List TypeId) (ty : TypeId) (as_ : List Value) :
    flat u = true ∧ (Builtin.len_ ⟨t :: ts⟩ ty ⟨x' :: as_⟩).run P w = .ok u w := by
  simp only [lenA, ob_some] at h
  obtain ⟨d, hd, h⟩ := h
  split at h
  · simp only [ob_some, strV_some, natV_eq, Option.some.injEq] at h
    obtain ⟨s, rfl, rfl⟩ := h
    obtain rfl := hx.of_flat rfl
    exact ⟨rfl, by simp [Builtin.len_, run_under hd, mkStr]; rfl⟩
  · split at h
    · rw [natV_eq] at h; cases h
      refine ⟨rfl, ?_⟩
      cases hx with
      | slice e => simp [Builtin.len_, run_under hd]; rfl
      | flat e => simp [Builtin.len_, run_under hd]; rfl
    · cases h
  · rw [natV_eq] at h; cases h
    exact ⟨rfl, by simp [Builtin.len_, run_under hd]; rfl⟩
  · simp only [ob_some, entriesA_some, natV_eq, Option.some.injEq] at h
    obtain ⟨es, hes, rfl⟩ := h
    refine ⟨rfl, ?_⟩
    rcases hes with ⟨rfl, rfl⟩ | ⟨r, k, rfl, hg⟩
    · obtain rfl := hx.of_flat rfl
      simp [Builtin.len_, run_under hd]; rfl
    · obtain ⟨b, d, hs, rfl⟩ := hx.map_inv
      obtain ⟨es', hw, he⟩ := hR.map hs hg
      have hl := he.length
      simp [Builtin.len_, run_under hd, run_getMap hw]
      rw [show es'.size = es.length by simpa using hl]
      rfl
  · cases h
theorem capA_run (hR : Rel P σ A w) {t : TypeId} {x x' u : Value} (h : capA P A.heap t x = some u) (hx : VR σ x x') (ts : List TypeId) (ty : TypeId) (as_ : List Value) :
    flat u = true ∧ (Builtin.cap_ ⟨t :: ts⟩ ty ⟨x' :: as_⟩).run P w = .ok u w := by
  simp only [capA, ob_some, sliceT_some] at h
  obtain ⟨e, hd, h⟩ := h
  split at h
  · rename_i a l n
    cases a with
    | none =>
      have h' : natV .i64 n = some u := h
      rw [natV_eq] at h'; cases h'
      refine ⟨rfl, ?_⟩
      cases hx with
      | flat e => simp [Builtin.cap_, run_under hd]; rfl
    | some a =>
      have h' : (rowAt A.heap a.block fun _ _ m => bt (bnot m.roomy) (natV .i64 n)) = some u := h
      simp only [rowAt_some, bt_some, natV_eq, Option.some.injEq, bnot_eq] at h'
      obtain ⟨c, e', m, hg, hrm, rfl⟩ := h'
      have hrm : m.roomy = false := by simpa using hrm
      refine ⟨rfl, ?_⟩
      cases hx with
      | flat e => simp [flat] at e
      | slice hs =>
        obtain ⟨c', e', fz, hw, hr, _⟩ := hR.rowA hs hg
        obtain rfl := hr.exact_ hrm
        simp [Builtin.cap_, run_under hd]; rfl
  · cases h
theorem convInt_run {s d : TypeId} {k : IntKind} {n : Int} {u : Value} (h : convInt P s d n = some u) (w : World) : flat u = true ∧ (convert s d (.int k n)).run P w = .ok u w := by
  simp only [convInt, ob_some] at h
  obtain ⟨sd, hs, dd, hd, kk, hk, h⟩ := h
  have hdd : dd = .int kk := by cases dd <;> simp [intD] at hk; rw [hk]
  subst hdd
  have hc : (convert s d (.int k n)).run P w = (Conv.intToInt kk n).run P w := by
    simp only [convert, Sem.run_bind, run_under hs, run_under hd, Result.andThen_ok]
  rw [hc]
  cases n with
  | negSucc m => have h' : flatPure P (Conv.intToInt kk (.negSucc m)) = some u := h; have := flatPure_run h'; exact ⟨this.1, this.2 w⟩
  | ofNat m =>
    have h' : (Bool.rec (flatPure P (Conv.intToInt kk (.ofNat m))) (natV kk m) (Nat.blt m (lim kk)) : Option Value) = some u := h
    cases hb : Nat.blt m (lim kk) with
    | false => rw [hb] at h'; have h'' : flatPure P (Conv.intToInt kk (.ofNat m)) = some u := h'; have := flatPure_run h''; exact ⟨this.1, this.2 w⟩
    | true =>
      rw [hb] at h'
      have h'' : natV kk m = some u := h'
      have hw : within kk m = some u := by unfold within; rw [hb]; exact h''
      rw [within_wrap hw]
      exact ⟨rfl, rfl⟩
theorem shape_of {b : Nat} {c' : Array Value} {e : TypeId} {fz : Nat × Nat} (h : w.heap[b]? = some (.cells c' e fz)) : w.shape? b = some (e, c'.size) := by simp [World.shape?, h]
theorem seenAt_run {b o : Nat} {c' : Array Value} {e : TypeId} {fz : Nat × Nat} (h : w.heap[b]? = some (.cells c' e fz)) : (Conv.seenAt ⟨b, o, none⟩).run P w = .ok ⟨b, o, none⟩ w := by
  simp [Conv.seenAt, viewAt, shape_of h]
theorem unsafeD_eq {d : TypeDesc} (h : unsafeD d = true) : d = .unsafePointer := by cases d <;> first | rfl | (cases h)
theorem RowR.exactly {d : Nat} {c : List Value} {e : TypeId} {m : Md} {c' : Array Value} {fz : Nat × Nat} (h : RowR P σ d c e m c' fz) (hm : m.roomy = false) : c'.size = c.length := by
  obtain ⟨cs, x, ec, hc, hx⟩ := h.cells
  rw [hx hm, List.append_nil] at ec
  rw [← hc.length, ← ec]; simp
theorem ptrConv_run (hR : Rel P σ A w) {s d : TypeId} {a : Addr} {x' u : Value} (h : ptrConvA P A.heap s d a = some u) (hx : VR σ (.pointer (some a)) x') : ∃ u', VR σ u u' ∧ (convert s d x').run P w = .ok u' w := by
  have hor : ptrOut P A.heap s d a = some u ∨ ptrIn P A.heap s d a = some u := by
    unfold ptrConvA at h
    cases ho : ptrOut P A.heap s d a with
    | some v => rw [ho] at h; exact .inl h
    | none => rw [ho] at h; exact .inr h
  rcases hor with h | h
  · simp only [ptrOut, ob_some, bt_some, ptrT_some, plainAt_some, rowAt_some, blt_iff, Option.some.injEq, bnot_eq, lget_eq] at h
    obtain ⟨t, hs, dd, hd, hud, n, hn, hn0, ha, c, e, m, hg, hrm, v, hv, rfl⟩ := h
    have := unsafeD_eq hud; subst this
    have hrm : m.roomy = false := by simpa using hrm
    rw [ha] at hx ⊢
    obtain ⟨b, dl, hsb, rfl⟩ := hx.ptr_inv
    obtain ⟨c', e', fz, hw, hr, _⟩ := hR.rowA hsb hg
    refine ⟨_, .ptr hsb, ?_⟩
    have hlt : a.off < c'.size := by
      rw [hr.exactly hrm]
      rcases Nat.lt_or_ge a.off c.length with h' | h'
      · exact h'
      · rw [List.getElem?_eq_none h'] at hv; cases hv
    have hn1 : n ≠ 0 := by omega
    simp only [convert, Sem.run_bind, run_under hs, run_under hd, Result.andThen_ok, Conv.unsafePointer, seenAt_run hw, cellsIn, run_shape, shape_of hw, Sem.run_pure, run_size hn]
    simp [hn1]
    omega
  · simp only [ptrIn, ob_some, bt_some, ptrT_some, plainAt_some, rowAt_some, Option.some.injEq, bnot_eq] at h
    obtain ⟨dd, hs, hud, t, hd, n, hn, ha, c, e, m, hg, hmw, hrm, hl, rfl⟩ := h
    have := unsafeD_eq hud; subst this
    have hrm : m.roomy = false := by simpa using hrm
    rw [ha] at hx ⊢
    obtain ⟨b, dl, hsb, rfl⟩ := hx.ptr_inv
    obtain ⟨c', fz, hw, hr⟩ := hR.row hsb hg hmw
    refine ⟨_, .ptr hsb, ?_⟩
    have hl' : liesAt P P.depth e (c'.size / P.cellsOf e) a.off t 1 = true := by rw [hr.exactly hrm]; exact hl
    simp [convert, run_under hs, run_under hd, Conv.unsafePointer, seenAt_run hw, run_size hn, variablesAt, shape_of hw, hl']
end Go.Ev
end

/- The evaluator: every quiet operation gives what the model gives. -/
section
set_option linter.unusedSectionVars false
namespace Go.Ev
variable {P : Program} {σ : Sg} {A : AW} {w : World} [Frozen P]
def OK (P : Program) [Frozen P] (σ : Sg) (F : T Value) (a : Act) (xs : List Operand) : Prop := ∀ x ∈ xs, ∀ v, opnd P F x = some v → VR σ v (a.eval x)
theorem opnds_run {F : T Value} {a : Act} : ∀ {xs : List Operand} {vs : List Value}, OK P σ F a xs → opnds P F xs = some vs → VRL σ vs (xs.map a.eval) := by
  intro xs
  induction xs with
  | nil => intro vs _ h; have := omap_nil.1 h; subst this; exact .nil
  | cons x xs ih =>
    intro vs hO h
    obtain ⟨y, ys, h1, h2, rfl⟩ := omap_cons.1 h
    exact .cons (hO x (by simp) y h1) (ih (fun x hx => hO x (by simp [hx])) h2)
theorem parts_run {F : T Value} {a : Act} : ∀ {xs : List (Nat × Operand)} {vs : List (Nat × Value)}, OK P σ F a (xs.map (·.2)) → partsA P F xs = some vs → PR σ vs (xs.map fun p => (p.1, a.eval p.2)) := by
  intro xs
  induction xs with
  | nil => intro vs _ h; have := omap_nil.1 h; subst this; exact .nil
  | cons x xs ih =>
    intro vs hO h
    obtain ⟨y, ys, h1, h2, rfl⟩ := omap_cons.1 h
    simp only [ob_some, Option.some.injEq] at h1
    obtain ⟨v, hv, rfl⟩ := h1
    exact .cons (hO x.2 (by simp) v hv) (ih (fun x hx => hO x (by simp at hx ⊢; exact .inr hx)) h2)
theorem optOp_run {F : T Value} {a : Act} {x : Option Operand} {v : Option Value} (hO : OK P σ F a x.toList) (h : optOp P F x = some v) : OVR σ v (x.map a.eval) := by
  cases x with
  | none => cases h; exact .none
  | some x =>
    have h' : (ob (opnd P F x) fun v => some (some v)) = some v := h
    simp only [ob_some, Option.some.injEq] at h'
    obtain ⟨u, hu, rfl⟩ := h'
    exact .some (hO x (by simp) u hu)
theorem nilCheck_run {x x' u : Value} (h : nilCheckA x = some u) (hx : VR σ x x') : u = x ∧ ((∃ p, x' = .pointer (some p)) ∨ ∃ f a c, x' = .func (.func f) a c) := by
  unfold nilCheckA at h
  split at h
  · cases h; rw [hx.ptr_plain] at hx; obtain ⟨b, d, _, rfl⟩ := hx.ptr_inv; exact ⟨rfl, .inl ⟨_, rfl⟩⟩
  · cases h
    cases hx with
    | func _ _ => exact ⟨rfl, .inr ⟨_, _, _, rfl⟩⟩
    | flat e => simp [flat] at e
  · cases h
theorem map_pairs (a : Act) (ps : List (Nat × Operand)) : (⟨ps⟩ : Array (Nat × Operand)).map (fun (i, x) => (i, a.eval x)) = ⟨ps.map fun p => (p.1, a.eval p.2)⟩ := by
  have : (⟨ps⟩ : Array (Nat × Operand)) = ps.toArray := rfl
  rw [this, List.map_toArray]
theorem map_ops (a : Act) (xs : List Operand) : (⟨xs⟩ : Array Operand).map a.eval = ⟨xs.map a.eval⟩ := by
  have : (⟨xs⟩ : Array Operand) = xs.toArray := rfl
  rw [this, List.map_toArray]
theorem data_run (a : Addr) (l c : Nat) (hc : c ≠ 0) (ts : Array TypeId) (ty : TypeId) (w : World) : (Builtin.unsafeSliceData_ ts ty #[.slice (some a) l c]).run P w = .ok (.pointer (some a)) w := by
  show (if c ≠ 0 then (pure (.pointer (some a)) : Sem Value) else _).run P w = _
  rw [if_pos hc]; rfl
theorem dataV_run {x x' u : Value} (h : dataV x = some u) (hx : VR σ x x') (ts : Array TypeId) (ty : TypeId) (w : World) : ∃ u', VR σ u u' ∧ (Builtin.unsafeSliceData_ ts ty #[x']).run P w = .ok u' w := by
  unfold dataV at h
  split at h
  · cases h
    cases hx with
    | flat e => exact ⟨_, .flat rfl, rfl⟩
  · cases h
    cases hx with
    | slice e => exact ⟨_, .ptr e, data_run _ _ _ (by omega) ts ty w⟩
    | flat e => simp [flat] at e
  · cases h
theorem qBuiltin_sound (hR : Rel P σ A w) {b : Builtin} {c : Call} {a : Act} {F : T Value} {v : Value} {ty : TypeId} {cs : Array Bool} (hO : OK P σ F a c.args.toList) (h : qBuiltin b c P F A.heap = some v) :
    ∃ v', VR σ v v' ∧ (builtin b c.argTypes ty cs (c.args.map a.eval)).run P w = .ok (.value v') w := by
  obtain ⟨cal, ⟨args⟩, ⟨ats⟩⟩ := c
  rw [map_ops]
  unfold qBuiltin at h
  split at h
  · simp only [qOne, ob_some, lget_eq] at h
    obtain ⟨t, ht, x, hx, u, hu, h⟩ := h
    cases ats with
    | nil => simp at ht
    | cons t' ts => cases args with
      | nil => simp at hx
      | cons x' xs =>
        simp at ht hx; subst ht hx
        obtain ⟨hf, hr⟩ := lenA_run hR h (hO _ (by simp) u hu) ts ty (xs.map a.eval)
        exact ⟨v, .flat hf, by simp only [builtin, List.map_cons, Sem.run_bind, hr, Result.andThen_ok, Sem.run_pure]⟩
  · simp only [qOne, ob_some, lget_eq] at h
    obtain ⟨t, ht, x, hx, u, hu, h⟩ := h
    cases ats with
    | nil => simp at ht
    | cons t' ts => cases args with
      | nil => simp at hx
      | cons x' xs =>
        simp at ht hx; subst ht hx
        obtain ⟨hf, hr⟩ := capA_run hR h (hO _ (by simp) u hu) ts ty (xs.map a.eval)
        exact ⟨v, .flat hf, by simp only [builtin, List.map_cons, Sem.run_bind, hr, Result.andThen_ok, Sem.run_pure]⟩
  · simp only [qMinMax, ob_some, bt_some] at h
    obtain ⟨vs, hvs, hf, h⟩ := h
    have hv := opnds_run hO hvs
    rw [hv.of_flats hf]
    have := flatPure_run h
    refine ⟨v, .flat this.1, ?_⟩
    have h2 : (Builtin.min_ ⟨ats⟩ ty ⟨vs⟩).run P w = .ok v w := this.2 w
    simp only [builtin, Sem.run_bind, h2, Result.andThen_ok, Sem.run_pure]
  · simp only [qMinMax, ob_some, bt_some] at h
    obtain ⟨vs, hvs, hf, h⟩ := h
    have hv := opnds_run hO hvs
    rw [hv.of_flats hf]
    have := flatPure_run h
    refine ⟨v, .flat this.1, ?_⟩
    have h2 : (Builtin.max_ ⟨ats⟩ ty ⟨vs⟩).run P w = .ok v w := this.2 w
    simp only [builtin, Sem.run_bind, h2, Result.andThen_ok, Sem.run_pure]
  · unfold qData at h
    split at h
    · rename_i x hx
      simp only at hx
      subst hx
      rw [ob_some] at h
      obtain ⟨u, hu, h⟩ := h
      obtain ⟨u', h1, h2⟩ := dataV_run (P := P) h (hO _ (by simp) u hu) ⟨ats⟩ ty w
      exact ⟨u', h1, by simp only [builtin, List.map_cons, List.map_nil, Sem.run_bind, Sem.run_pure]; rw [h2]; rfl⟩
    · cases h
  · cases h
theorem evQ_sound (hR : Rel P σ A w) {o : Oper} {a : Act} {F : T Value} {v : Value} (hO : OK P σ F a o.op.operands.toList) (h : evQ o.op P F A.heap = some v) :
    ∃ v', VR σ v v' ∧ (execOp a.eval o).run P w = .ok (.value v') w := by
  obtain ⟨dst, op, ty, pos, after, guard⟩ := o
  cases op <;> simp only [evQ] at h <;> try (cases h; done)
  case move x => exact ⟨_, hO x (by simp [Op.operands]) v h, rfl⟩
  case assign x => exact ⟨_, hO x (by simp [Op.operands]) v h, rfl⟩
  case pick c x y =>
    simp only [qPick, ob_some, boolOf_some] at h
    obtain ⟨u, hu, b, rfl, h⟩ := h
    have hc := (hO c (by simp [Op.operands]) _ hu).of_flat rfl
    cases b with
    | true => exact ⟨_, hO x (by simp [Op.operands]) v h, by simp [execOp, hc, asBool]⟩
    | false => exact ⟨_, hO y (by simp [Op.operands]) v h, by simp [execOp, hc, asBool]⟩
  case load t x =>
    simp only [qLoad, ob_some] at h
    obtain ⟨u, hu, h⟩ := h
    obtain ⟨u', h1, h2, _⟩ := run_loadA hR h (hO x (by simp [Op.operands]) u hu)
    exact ⟨u', h1, by simp [execOp, h2]⟩
  case nilCheck x =>
    simp only [qNil, ob_some] at h
    obtain ⟨u, hu, h⟩ := h
    have hx := hO x (by simp [Op.operands]) u hu
    obtain ⟨rfl, h3⟩ := nilCheck_run h hx
    refine ⟨_, hx, ?_⟩
    rcases h3 with ⟨p, hp⟩ | ⟨f, b, c, hp⟩ <;> simp [execOp, hp]
  case build t ps =>
    simp only [qBuild, ob_some] at h
    obtain ⟨vs, hvs, h⟩ := h
    obtain ⟨ps⟩ := ps
    have hp := parts_run (a := a) (fun x hx => hO x (by simpa [Op.operands] using hx)) hvs
    obtain ⟨v', h1, h2⟩ := buildA_run h hp w
    refine ⟨v', h1, ?_⟩
    simp only [execOp, map_pairs, Sem.run_bind, h2, Result.andThen_ok, Sem.run_pure]
  case binOp op t x y yt =>
    simp only [qBin, ob_some] at h
    obtain ⟨u, hu, u2, hu2, h⟩ := h
    obtain ⟨hf, hr⟩ := binA_run h (hO x (by simp [Op.operands]) u hu) (hO y (by simp [Op.operands]) u2 hu2) w
    refine ⟨v, .flat hf, ?_⟩
    simp only [execOp, Sem.run_bind] at hr ⊢
    rw [hr]; rfl
  case unOp op t x =>
    simp only [qUn, ob_some, bt_some] at h
    obtain ⟨u, hu, hf, h⟩ := h
    have hx := (hO x (by simp [Op.operands]) _ hu).of_flat hf
    have := flatPure_run h
    exact ⟨v, .flat this.1, by simp [execOp, hx, this.2 w]⟩
  case convert s d x =>
    simp only [qConv, ob_some] at h
    obtain ⟨u, hu, h⟩ := h
    have hx := hO x (by simp [Op.operands]) _ hu
    split at h
    · have hx := hx.of_flat rfl
      have := fun k => convInt_run (k := k) h w
      exact ⟨v, .flat (this .i64).1, by simp only [execOp, hx, Sem.run_bind, (this _).2, Result.andThen_ok, Sem.run_pure]⟩
    · rw [ob_some] at h
      obtain ⟨p, rfl, h⟩ := h
      obtain ⟨u', h1, h2⟩ := ptrConv_run hR h hx
      exact ⟨u', h1, by simp only [execOp, Sem.run_bind, h2, Result.andThen_ok, Sem.run_pure]⟩
    · cases h
  case makeInterface t x =>
    simp only [qIface, ob_some, bt_some, Option.some.injEq, bnot_eq] at h
    obtain ⟨u, hu, d, hd, hi, hlt, rfl⟩ := h
    refine ⟨_, .iface hlt (hO x (by simp [Op.operands]) _ hu), ?_⟩
    simp only [execOp, Instr.makeInterface, Sem.run_bind, run_under hd, Result.andThen_ok]
    cases d <;> first | (simp [ifaceD] at hi; done) | rfl
  case makeFunc fn f c =>
    simp only [qFunc, ob_some, Option.some.injEq] at h
    obtain ⟨vf, hf, vc, hc, rfl⟩ := h
    obtain ⟨f⟩ := f; obtain ⟨c⟩ := c
    have h1 := opnds_run (a := a) (fun x hx => hO x (by simp [Op.operands]; exact .inl hx)) hf
    have h2 := opnds_run (a := a) (fun x hx => hO x (by simp [Op.operands]; exact .inr hx)) hc
    exact ⟨_, .func h1 h2, by simp [execOp, Instr.makeFunc]⟩
  case slice t x lo hi mx =>
    simp only [qSlice, ob_some] at h
    obtain ⟨u, hu, lo', hlo, hi', hhi, mx', hmx, h⟩ := h
    obtain ⟨u', h1, h2⟩ := sliceA_run hR h (hO x (by simp [Op.operands]) u hu) (optOp_run (fun x hx => hO x (by simp at hx; simp [Op.operands, hx])) hlo) (optOp_run (fun x hx => hO x (by simp at hx; simp [Op.operands, hx])) hhi) (optOp_run (fun x hx => hO x (by simp at hx; simp [Op.operands, hx])) hmx)
    exact ⟨u', h1, by simp only [execOp, Sem.run_bind, h2, Result.andThen_ok, Sem.run_pure]⟩
  case sliceToArrayPointer t x =>
    simp only [qArr, ob_some, arrayT_some] at h
    obtain ⟨⟨n, e⟩, ht, u, hu, h⟩ := h
    have hx := hO x (by simp [Op.operands]) u hu
    split at h
    · simp only [ob_some, bt_some, bleIff, Option.some.injEq] at h
      obtain ⟨p, rfl, hle, rfl⟩ := h
      cases hE : a.eval x <;> rw [hE] at hx <;> cases hx
      · rename_i e1; simp [flat] at e1
      · rename_i i b d o e1
        refine ⟨_, .ptr e1, ?_⟩
        simp only at hle ht
        simp only [execOp, hE, Instr.arrayAt, Sem.run_bind, run_under ht, Result.andThen_ok]
        rw [if_neg (by omega)]
        rfl
    · cases h
  case fieldAddr s x f =>
    simp only [qFieldAddr, ob_some] at h
    obtain ⟨u, hu, h⟩ := h
    obtain ⟨u', h1, h2⟩ := fieldAddr_run h (hO x (by simp [Op.operands]) u hu) w
    exact ⟨u', h1, by simp only [execOp, Sem.run_bind, h2, Result.andThen_ok, Sem.run_pure]⟩
  case field t x f =>
    simp only [qField, ob_some] at h
    obtain ⟨u, hu, h⟩ := h
    obtain ⟨u', h1, h2⟩ := field_run h (hO x (by simp [Op.operands]) u hu) w
    exact ⟨u', h1, by simp only [execOp, Sem.run_bind, h2, Result.andThen_ok, Sem.run_pure]⟩
  case indexAddr t x i =>
    simp only [qIndexAddr, ob_some] at h
    obtain ⟨u, hu, k, hk, h⟩ := h
    obtain ⟨u', h1, h2⟩ := indexAddr_run h (hO x (by simp [Op.operands]) u hu) (hO i (by simp [Op.operands]) k hk) w
    exact ⟨u', h1, by simp only [execOp, Sem.run_bind, h2, Result.andThen_ok, Sem.run_pure]⟩
  case index t x i =>
    simp only [qIndex, ob_some] at h
    obtain ⟨u, hu, k, hk, h⟩ := h
    obtain ⟨u', h1, h2⟩ := index_run h (hO x (by simp [Op.operands]) u hu) (hO i (by simp [Op.operands]) k hk) w
    exact ⟨u', h1, by simp only [execOp, Sem.run_bind, h2, Result.andThen_ok, Sem.run_pure]⟩
  case lookup t x k ok =>
    simp only [qLookup, ob_some] at h
    obtain ⟨u, hu, kv, hk, h⟩ := h
    obtain ⟨u', h1, h2⟩ := lookupA_run hR h (hO x (by simp [Op.operands]) u hu) (hO k (by simp [Op.operands]) kv hk)
    exact ⟨u', h1, by simp only [execOp, Sem.run_bind, h2, Result.andThen_ok, Sem.run_pure]⟩
  case extract x i =>
    simp only [qExtract, ob_some, tupV_some, lget_eq] at h
    obtain ⟨u, hu, vs, rfl, h⟩ := h
    obtain ⟨c', hc, he⟩ := (hO x (by simp [Op.operands]) _ hu).tuple_inv
    obtain ⟨v', hv, hr⟩ := hc.get h
    refine ⟨v', hr, ?_⟩
    have : (⟨c'⟩ : Array Value)[i]? = some v' := by rw [← Array.getElem?_toList]; exact hv
    simp [execOp, he, Instr.extract, this]
  case call c =>
    obtain ⟨cal, args, ats⟩ := c
    cases cal with
    | builtin b =>
      have h : qBuiltin b ⟨.builtin b, args, ats⟩ P F A.heap = some v := h
      obtain ⟨v', h1, h2⟩ := qBuiltin_sound hR (ty := ty) (cs := args.map fun | .const _ => true | _ => false) (fun x hx => hO x (by simp [Op.operands, Call.operands]; simpa using hx)) h
      refine ⟨v', h1, ?_⟩
      simp only [execOp, resolve, Sem.run_bind, Sem.run_pure, Result.andThen_ok, invoke]
      exact h2
    | _ => cases h
end Go.Ev
end
