/- The evaluator: slices, maps, conversions, lengths. -/
import Derived.Test.YtamjbnfmpfgjcaaGreatDoorEvG
namespace Go.Ev
variable {P : Program} {σ : Sg} {A : AW} {w : World}

/- Slices. -/
inductive OVR (σ : Sg) : Option Value → Option Value → Prop
  | none : OVR σ none none
  | some {v v' : Value} : VR σ v v' → OVR σ (some v) (some v')
theorem upto_some {v : Value} {n i : Nat} : upto v n = some i ↔ (∃ k, v = .int k (.ofNat i)) ∧ i ≤ n := by
  simp only [upto, ob_some, bt_some, numV_some, bleIff, Option.some.injEq]
  constructor
  · rintro ⟨j, hk, hl, rfl⟩; exact ⟨hk, hl⟩
  · rintro ⟨hk, hl⟩; exact ⟨i, hk, hl, rfl⟩
theorem sliceBound_run {v v' : Value} {n m i : Nat} {code : BoundsCode} (h : upto v n = some i) (hv : VR σ v v') (hm : i ≤ m) (w : World) : (Instr.sliceBound v' m code).run P w = .ok i w := by
  obtain ⟨⟨k, rfl⟩, _⟩ := upto_some.1 h
  obtain rfl := hv.of_flat rfl
  have h1 : (0 : Int) ≤ Int.ofNat i ∧ Int.ofNat i ≤ (m : Int) := ⟨by simp, by simpa using hm⟩
  simp only [Instr.sliceBound, asIntOf, Sem.run_bind, Sem.run_pure, Result.andThen_ok, if_pos h1]
  rfl
theorem bounds_le {len cap l h : Nat} {lo hi : Option Value} (hb : boundsA len cap lo hi = some (l, h)) : l ≤ h := by
  simp only [boundsA, ob_some, Option.some.injEq, Prod.mk.injEq] at hb
  obtain ⟨h', hh, l', hl, rfl, rfl⟩ := hb
  cases lo with
  | none => cases hl; exact Nat.zero_le _
  | some v => exact (upto_some.1 hl).2
theorem bounds_run {b : Bool} {len cap m l h : Nat} {lo hi lo' hi' : Option Value} (hb : boundsA len cap lo hi = some (l, h)) (hlo : OVR σ lo lo') (hhi : OVR σ hi hi') (hm : h ≤ m) (w : World) :
    (Instr.sliceBounds b len m lo' hi' none).run P w = .ok (l, h, m) w := by
  have hle := bounds_le hb
  simp only [boundsA, ob_some, Option.some.injEq, Prod.mk.injEq] at hb
  obtain ⟨h', hh, l', hl, rfl, rfl⟩ := hb
  cases hhi with
  | none =>
    cases hh
    cases hlo with
    | none => cases hl; simp [Instr.sliceBounds]
    | some hv => have := fun c => sliceBound_run (P := P) (code := c) hl hv hle w; simp [Instr.sliceBounds, this]
  | some hv1 =>
    have h1 := fun c => sliceBound_run (P := P) (code := c) hh hv1 hm w
    cases hlo with
    | none => cases hl; simp [Instr.sliceBounds, h1]
    | some hv => have := fun c => sliceBound_run (P := P) (code := c) hl hv hle w; simp [Instr.sliceBounds, h1, this]
theorem bounds3_run {b : Bool} {len cap m l h : Nat} {lo lo' : Option Value} {hv hv' mx mx' : Value} (hmx : upto mx cap = some m) (hb : boundsA len m lo (some hv) = some (l, h)) (hlo : OVR σ lo lo') (hhi : VR σ hv hv') (hmv : VR σ mx mx') (w : World) :
    (Instr.sliceBounds b len cap lo' (some hv') (some mx')).run P w = .ok (l, h, m) w := by
  have hle := bounds_le hb
  simp only [boundsA, ob_some, Option.some.injEq, Prod.mk.injEq] at hb
  obtain ⟨h', hh, l', hl, rfl, rfl⟩ := hb
  have hm' : ∀ c, (Instr.sliceBound mx' cap c).run P w = .ok m w := fun c => sliceBound_run hmx hmv (upto_some.1 hmx).2 w
  have hh' : ∀ c, (Instr.sliceBound hv' m c).run P w = .ok h' w := fun c => sliceBound_run hh hhi (upto_some.1 hh).2 w
  cases hlo with
  | none => cases hl; simp [Instr.sliceBounds, hm', hh']
  | some hv => have := fun c => sliceBound_run (P := P) (code := c) hl hv hle w; simp [Instr.sliceBounds, hm', hh', this]
theorem cutAt_eq (b o l n cap len' : Nat) : cutAt b o l n cap len' = some (.slice (some ⟨b, if cap = l then o else o + l * n, none⟩) len' (cap - l)) := by
  unfold cutAt
  rw [fnat_eq, fnat_eq, fnat_eq]
  have : (Bool.rec (Nat.add o (Nat.mul l n)) o (Nat.beq cap l) : Nat) = if cap = l then o else o + l * n := by
    cases h : Nat.beq cap l with
    | true => rw [if_pos (beqIff.1 h)]
    | false => rw [if_neg (fun e => by rw [beqIff.2 e] at h; cases h)]; rfl
  rw [this]; rfl
theorem cut_addr (b o l n m : Nat) : (if m = l then (⟨b, o, none⟩ : Addr) else (⟨b, o, none⟩ : Addr).add (l * n)) = ⟨b, if m = l then o else o + l * n, none⟩ := by
  split <;> simp [add_plain]
theorem sliceA_run (hR : Rel P σ A w) {t : TypeId} {x x' u : Value} {lo lo' hi hi' mx mx' : Option Value} (h : sliceA P A.heap t x lo hi mx = some u) (hx : VR σ x x') (hlo : OVR σ lo lo') (hhi : OVR σ hi hi') (hmx : OVR σ mx mx') :
    ∃ u', VR σ u u' ∧ (Instr.sliceAt t x' lo' hi' mx').run P w = .ok u' w := by
  simp only [sliceA, ob_some] at h
  obtain ⟨d, hd, h⟩ := h
  split at h
  · simp only [ob_some, strV_some] at h
    obtain ⟨s, rfl, h⟩ := h
    obtain rfl := hx.of_flat rfl
    cases hmx with
    | some _ => cases h
    | none =>
      have h' : (fnat s.length fun n => ob (boundsA n n lo hi) fun p => ob (lsub s p.1 (Nat.sub p.2 p.1)) fun b => some (mkStr b)) = some u := h
      rw [fnat_eq] at h'
      simp only [ob_some, Option.some.injEq] at h'
      obtain ⟨⟨l, hh⟩, hb, bs, hs, rfl⟩ := h'
      obtain ⟨rfl, hle⟩ := lsub_some hs
      have hle2 := bounds_le hb
      have hhl : hh ≤ s.length := by have : Nat.sub hh l = hh - l := rfl; simp only at hle hle2; omega
      refine ⟨_, .flat rfl, ?_⟩
      have hb' := bounds_run (P := P) (b := false) hb hlo hhi hhl w
      have hsz : (⟨⟨s⟩⟩ : ByteArray).size = s.length := rfl
      simp only [mkStr, Instr.sliceAt, Instr.slice, Sem.run_bind, run_under hd, Result.andThen_ok, Option.isSome_none, Bool.false_eq_true, if_false, hsz, hb', Sem.run_pure]
      congr 2
      apply ByteArray.ext
      apply Array.toList_inj.1
      rw [ByteArray.data_extract, Array.toList_extract, List.extract_eq_take_drop]
      rfl
  · rename_i e
    unfold sliceL at h
    split at h
    · rename_i a len cap
      rw [ob_some] at h
      obtain ⟨n, hn, h⟩ := h
      cases a with
      | none =>
        have h' : bt (Nat.beq (Nat.add len cap) 0) (sliceN lo hi mx) = some u := h
        rw [bt_some, beqIff] at h'
        obtain ⟨h0, h'⟩ := h'
        have h0' : len + cap = 0 := h0
        obtain ⟨rfl, rfl⟩ : len = 0 ∧ cap = 0 := ⟨by omega, by omega⟩
        obtain rfl := hx.of_flat rfl
        cases hmx with
        | some _ => cases h'
        | none =>
          have h'' : ob (boundsA 0 0 lo hi) (fun _ => some (Value.slice none 0 0)) = some u := h'
          simp only [ob_some, Option.some.injEq] at h''
          obtain ⟨⟨l, hh⟩, hb, rfl⟩ := h''
          have hle2 := bounds_le hb
          have hh0 : hh ≤ 0 := by
            simp only [boundsA, ob_some, Option.some.injEq, Prod.mk.injEq] at hb
            obtain ⟨h', hh', _, _, _, rfl⟩ := hb
            cases hi with
            | none => cases hh'; exact Nat.le_refl 0
            | some v => exact (upto_some.1 hh').2
          have hb' := bounds_run (P := P) (b := true) hb hlo hhi hh0 w
          refine ⟨_, .flat rfl, ?_⟩
          obtain ⟨rfl, rfl⟩ : l = 0 ∧ hh = 0 := ⟨by omega, by omega⟩
          simp [Instr.sliceAt, Instr.slice, run_under hd, hb', run_size hn]
      | some a =>
        have h' : (plainAt a fun b o => rowAt A.heap b fun _ _ m => Option.rec (slice2 m.roomy b o len cap n lo hi) (fun mx => slice3 m.roomy b o len cap n lo hi mx) mx) = some u := h
        rw [plainAt_some, rowAt_some] at h'
        obtain ⟨ha, c, e', m, hg, h'⟩ := h'
        rw [ha] at hx
        obtain ⟨b, dd, hsb, rfl⟩ := hx.slice_inv
        obtain ⟨c', e', fz, hw, hr, _⟩ := hR.rowA hsb hg
        cases hmx with
        | none =>
          have h'' : slice2 m.roomy a.block a.off len cap n lo hi = some u := h'
          simp only [slice2, ob_some, bt_some, bleIff, cutAt_eq, Option.some.injEq] at h''
          obtain ⟨⟨l, hh⟩, hb, hhc, hok, rfl⟩ := h''
          simp only at hhc hok
          have hle2 := bounds_le hb
          have hb' := bounds_run (P := P) (b := true) (m := cap + dd) hb hlo hhi (by omega) w
          have hout : (Instr.sliceAt t (.slice (some ⟨b, a.off, none⟩) len (cap + dd)) lo' hi' none).run P w = .ok (.slice (some ⟨b, if cap + dd = l then a.off else a.off + l * n, none⟩) (hh - l) (cap + dd - l)) w := by
            simp only [Instr.sliceAt, Instr.slice, Sem.run_bind, run_under hd, Result.andThen_ok, hb', run_size hn, Sem.run_pure, Option.map_some]
            congr 2
            split <;> simp [add_plain]
          refine ⟨_, ?_, hout⟩
          have he : (if cap + dd = l then a.off else a.off + l * n) = if cap = l then a.off else a.off + l * n := by
            cases hrm : m.roomy with
            | false => rw [hr.exact_ hrm]; rfl
            | true =>
              rw [hrm] at hok
              cases l with
              | zero => simp
              | succ l => have hlt : l + 1 < cap := blt_iff.1 hok; rw [if_neg (by omega), if_neg (by omega)]
          rw [he, show cap + dd - l = (cap - l) + dd by omega]
          exact .slice hsb
        | some hmv =>
          rename_i mv mv'
          have h'' : slice3 m.roomy a.block a.off len cap n lo hi mv = some u := h'
          cases hrm : m.roomy with
          | true => rw [hrm] at h''; cases h''
          | false =>
            rw [hrm] at h''
            have h3 : (ob hi fun hv => ob (upto mv cap) fun m => ob (boundsA len m lo (some hv)) fun p => cutAt a.block a.off p.1 n m (Nat.sub p.2 p.1)) = some u := h''
            simp only [ob_some, cutAt_eq, Option.some.injEq] at h3
            obtain ⟨hv, rfl, mm, hmm, ⟨l, hh⟩, hb, rfl⟩ := h3
            obtain rfl : dd = 0 := hr.exact_ hrm
            cases hhi with
            | some hhv =>
              have hb' := bounds3_run (P := P) (b := true) hmm hb hlo hhv hmv w
              refine ⟨_, .slice hsb, ?_⟩
              simp only [Instr.sliceAt, Instr.slice, Sem.run_bind, run_under hd, Result.andThen_ok, hb', run_size hn, Sem.run_pure, Option.map_some, Nat.add_zero]
              congr 2
              split <;> simp [add_plain]
    · cases h
  · rename_i n e
    simp only [sliceR, ob_some, ptrV_some, plainAt_some, rowAt_some, bt_some] at h
    obtain ⟨a, rfl, ha, sz, hsz, c, e', m, hg, hrm, h⟩ := h
    rw [bnot_eq] at hrm
    have hrm : m.roomy = false := by simpa using hrm
    rw [ha] at hx
    obtain ⟨b, dd, hsb, rfl⟩ := hx.ptr_inv
    obtain ⟨c', e', fz, hw, hr, _⟩ := hR.rowA hsb hg
    obtain rfl : dd = 0 := hr.exact_ hrm
    cases hmx with
    | some _ => cases h
    | none =>
      have h' : (ob (boundsA n n lo hi) fun p => bt (Nat.ble p.2 n) (cutAt a.block a.off p.1 sz n (Nat.sub p.2 p.1))) = some u := h
      simp only [ob_some, bt_some, bleIff, cutAt_eq, Option.some.injEq] at h'
      obtain ⟨⟨l, hh⟩, hb, hhn, rfl⟩ := h'
      have hb' := bounds_run (P := P) (b := false) hb hlo hhi hhn w
      refine ⟨_, .slice hsb, ?_⟩
      simp only [Instr.sliceAt, Instr.sureAddr, Sem.run_bind, run_under hd, Result.andThen_ok, hb', run_size hsz, Sem.run_pure, Nat.add_zero]
      congr 2
      split <;> simp [add_plain]
  · cases h
end Go.Ev
