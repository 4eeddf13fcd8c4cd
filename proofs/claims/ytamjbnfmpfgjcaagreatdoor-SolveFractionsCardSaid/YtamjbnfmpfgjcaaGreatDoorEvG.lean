/- The evaluator: places, parts, slices, literals, maps. -/
import Derived.Test.YtamjbnfmpfgjcaaGreatDoorEvF
namespace Go.Ev
variable {P : Program} {σ : Sg} {A : AW} {w : World}

theorem cells_eq (v : Value) : v.cells = ⟨cellsA v⟩ := by cases v <;> rfl
/- Literals. -/
theorem fold_set (off : Nat) : ∀ (l : List Value) (k : Nat) (c : Array Value), off + k + l.length ≤ c.size →
    ((l.zipIdx k).foldl (fun cs p => cs.setIfInBounds (off + p.2) p.1) c).toList = c.toList.take (off + k) ++ (l ++ c.toList.drop (off + k + l.length)) := by
  intro l
  induction l with
  | nil => intro k c h; simp
  | cons x l ih =>
    intro k c h
    simp only [List.zipIdx_cons, List.foldl_cons]
    rw [ih (k + 1) (c.setIfInBounds (off + k) x) (by simp at h ⊢; omega)]
    simp only [Array.toList_setIfInBounds]
    have hlt : off + k < c.toList.length := by simp at h ⊢; omega
    have ht : (c.toList.set (off + k) x).take (off + k + 1) = c.toList.take (off + k) ++ [x] := by
      rw [List.take_add_one, List.take_set_of_le (Nat.le_refl _), List.getElem?_set_self hlt]
      rfl
    rw [show off + (k + 1) = off + k + 1 by omega, ht, List.drop_set_of_lt (by omega)]
    simp only [List.length_cons, List.append_assoc, List.cons_append, List.nil_append]
    rw [show off + k + 1 + l.length = off + k + (l.length + 1) by omega]
inductive PR (σ : Sg) : List (Nat × Value) → List (Nat × Value) → Prop
  | nil : PR σ [] []
  | cons {i : Nat} {v v' : Value} {l l' : List (Nat × Value)} : VR σ v v' → PR σ l l' → PR σ ((i, v) :: l) ((i, v') :: l')
theorem fill_run {pl pl' : Nat → Option (Nat × Nat)} (hp : ∀ i q, pl i = some q → pl' i = some q) : ∀ {ps ps' : List (Nat × Value)} {z c zs : List Value}, PR σ ps ps' → fillA pl ps z = some c → VRL σ z zs →
    ∃ cs, Instr.fill pl' ⟨zs⟩ ps' = some ⟨cs⟩ ∧ VRL σ c cs := by
  intro ps
  induction ps with
  | nil => intro ps' z c zs hpr h hz; cases hpr; simp only [fillA] at h; cases h; exact ⟨zs, rfl, hz⟩
  | cons p ps ih =>
    intro ps' z c zs hpr h hz
    cases hpr with
    | @cons i v v' l l' hv hl =>
      have h' : ob (pl i) (fun q => bt (lenB (cellsA v) q.2) (ob (lover (cellsA v) q.1 z) (fillA pl ps))) = some c := h
      simp only [ob_some, bt_some, lenB_iff] at h'
      obtain ⟨⟨off, size⟩, hq, hlen, z', hz', h'⟩ := h'
      simp only at hlen hz'
      obtain ⟨rfl, hle⟩ := lover_some _ _ _ _ hz'
      have hc := hv.cells
      have hcl := hc.length
      have hzl := hz.length
      have hcs : v'.cells.size = size := by rw [← hlen, ← hcl]; simp
      have hVR : VRL σ (z.take off ++ (cellsA v ++ z.drop (off + (cellsA v).length))) (zs.take off ++ (v'.cells.toList ++ zs.drop (off + v'.cells.toList.length))) := by
        rw [hcl]; exact (hz.take off).append (hc.append (hz.drop _))
      obtain ⟨cs, h1, h2⟩ := ih hl h' hVR
      refine ⟨cs, ?_, h2⟩
      unfold Instr.fill
      simp only [hp i _ hq]
      rw [if_neg (by simp [hcs]; omega), ← h1]
      congr 1
      apply Array.toList_inj.1
      rw [← Array.foldl_toList, Array.toList_zipIdx]
      have := fold_set off v'.cells.toList 0 ⟨zs⟩ (by simp; omega)
      simpa using this
theorem zeroA_some {t : TypeId} {z : List Value} : zeroA P t = some z ↔ ∃ i v, P.info? t = some i ∧ i.zero = some v ∧ flats (cellsA v) = true ∧ z = cellsA v := by
  simp only [zeroA, ob_some, bt_some, Option.some.injEq]
  constructor
  · rintro ⟨i, hi, v, hv, hf, rfl⟩; exact ⟨i, v, hi, hv, hf, rfl⟩
  · rintro ⟨i, v, hi, hv, hf, rfl⟩; exact ⟨i, hi, v, hv, hf, rfl⟩
theorem run_zero {t : TypeId} {z : List Value} (h : zeroA P t = some z) (w : World) : ∃ v, (zeroValue t).run P w = .ok v w ∧ v.cells = ⟨z⟩ ∧ VRL σ z z := by
  obtain ⟨i, v, hi, hv, hf, rfl⟩ := zeroA_some.1 h
  exact ⟨v, by simp [zeroValue, run_info hi, hv], cells_eq v, .refl_flats hf⟩
theorem placesA_run : ∀ {fs : List Field} {pl : List (Nat × Nat)}, placesA P fs = some pl → ∀ w, (fs.mapM fun f => do pure (f.offset, ← sizeOf f.type) : Sem (List (Nat × Nat))).run P w = .ok pl w := by
  intro fs
  induction fs with
  | nil => intro pl h w; have := omap_nil.1 h; subst this; rfl
  | cons f fs ih =>
    intro pl h w
    obtain ⟨y, ys, h1, h2, rfl⟩ := omap_cons.1 h
    simp only [ob_some, Option.some.injEq] at h1
    obtain ⟨n, hn, rfl⟩ := h1
    have := ih h2 w
    simp only [List.mapM_cons, Sem.run_bind, run_size hn, Result.andThen_ok, Sem.run_pure, this]
theorem buildA_run {t : TypeId} {ps ps' : List (Nat × Value)} {v : Value} (h : buildA P t ps = some v) (hp : PR σ ps ps') (w : World) : ∃ v', VR σ v v' ∧ (Instr.build t ⟨ps'⟩).run P w = .ok v' w := by
  simp only [buildA, ob_some] at h
  obtain ⟨z, hz, d, hd, h⟩ := h
  obtain ⟨zv, hzr, hzc, hzz⟩ := run_zero (σ := σ) hz w
  split at h
  · rename_i fs
    simp only [buildS, ob_some, Option.some.injEq] at h
    obtain ⟨pl, hpl, c, hc, rfl⟩ := h
    obtain ⟨cs, h1, h2⟩ := fill_run (pl' := fun i => (pl.toArray)[i]?) (fun i q hq => by rw [lget_eq] at hq; simpa using hq) hp hc hzz
    refine ⟨.agg ⟨cs⟩, .agg h2, ?_⟩
    have hm := placesA_run hpl w
    obtain ⟨fl⟩ := fs
    have hm2 : (Array.mapM (fun f : Field => (do pure (f.offset, ← sizeOf f.type) : Sem (Nat × Nat))) ⟨fl⟩).run P w = .ok pl.toArray w := by
      have : (⟨fl⟩ : Array Field) = fl.toArray := rfl
      rw [this, List.mapM_toArray]
      simp only [Sem.run_map, hm, Result.andThen_ok]
    simp only [Instr.build, Sem.run_bind, hzr, Result.andThen_ok, run_under hd, hm2, hzc, h1, Sem.run_pure]
  · rename_i n e
    simp only [buildR, ob_some, Option.some.injEq] at h
    obtain ⟨sz, hsz, c, hc, rfl⟩ := h
    obtain ⟨cs, h1, h2⟩ := fill_run (pl' := fun i => some (i * sz, sz)) (fun i q hq => hq) hp hc hzz
    refine ⟨.agg ⟨cs⟩, .agg h2, ?_⟩
    simp only [Instr.build, Sem.run_bind, hzr, Result.andThen_ok, run_under hd, run_size hsz, hzc, h1, Sem.run_pure]
  · cases h

/- Places. -/
theorem ptrTo_eq (b o : Nat) : ptrTo b o = some (.pointer (some ⟨b, o, none⟩)) := fnat_eq o _
theorem structT_some {t : TypeId} {fs : Array Field} : structT P t = some fs ↔ P.underlying t = some (.struct fs) := by
  simp only [structT, ob_some]
  constructor
  · rintro ⟨d, hd, h⟩; cases d <;> simp [structD] at h; rw [hd, h]
  · intro h; exact ⟨_, h, rfl⟩
theorem sliceT_some {t e : TypeId} : sliceT P t = some e ↔ P.underlying t = some (.slice e) := by
  simp only [sliceT, ob_some]
  constructor
  · rintro ⟨d, hd, h⟩; cases d <;> simp [sliceD] at h; rw [hd, h]
  · intro h; exact ⟨_, h, rfl⟩
theorem arrayT_some {t : TypeId} {q : Nat × TypeId} : arrayT P t = some q ↔ P.underlying t = some (.array q.1 q.2) := by
  simp only [arrayT, ob_some]
  constructor
  · rintro ⟨d, hd, h⟩; cases d <;> simp [arrayD] at h; rw [hd, ← h]
  · intro h; exact ⟨_, h, rfl⟩
theorem mapT_some {t : TypeId} {q : TypeId × TypeId} : mapT P t = some q ↔ P.underlying t = some (.map q.1 q.2) := by
  simp only [mapT, ob_some]
  constructor
  · rintro ⟨d, hd, h⟩; cases d <;> simp [mapD] at h; rw [hd, ← h]
  · intro h; exact ⟨_, h, rfl⟩
theorem ptrT_some {t e : TypeId} : ptrT P t = some e ↔ P.underlying t = some (.pointer e) := by
  simp only [ptrT, ob_some]
  constructor
  · rintro ⟨d, hd, h⟩; cases d <;> simp [ptrD] at h; rw [hd, h]
  · intro h; exact ⟨_, h, rfl⟩
theorem fieldAddr_run {s : TypeId} {v v' u : Value} {f : Nat} (h : fieldAddrA P s v f = some u) (hv : VR σ v v') (w : World) : ∃ u', VR σ u u' ∧ (Instr.fieldAt s v' f).run P w = .ok u' w := by
  simp only [fieldAddrA, ob_some, bt_some, structT_some, ptrV_some, plainAt_some, blt_iff, ptrTo_eq, Option.some.injEq] at h
  obtain ⟨fs, hs, fd, hf, n, hn, hn0, a, rfl, ha, rfl⟩ := h
  rw [ha] at hv
  obtain ⟨b, d, hsb, rfl⟩ := hv.ptr_inv
  refine ⟨_, .ptr hsb, ?_⟩
  rw [lget_eq] at hf
  have hf' : fs[f]? = some fd := by rw [← Array.getElem?_toList]; exact hf
  have hn1 : n ≠ 0 := by omega
  simp [Instr.fieldAt, run_under hs, hf', Instr.sureAddr, fieldPlace, run_size hn, hn1, add_plain]
theorem field_run {t : TypeId} {v v' u : Value} {f : Nat} (h : fieldA P t v f = some u) (hv : VR σ v v') (w : World) : ∃ u', VR σ u u' ∧ (Instr.field t v' f).run P w = .ok u' w := by
  simp only [fieldA, ob_some, structT_some, aggV_some] at h
  obtain ⟨fs, hs, c, rfl, fd, hf, h⟩ := h
  obtain ⟨c', hc, rfl⟩ := hv.agg_inv
  obtain ⟨u', hu, hr⟩ := run_part h hc [] w
  refine ⟨u', hu, ?_⟩
  rw [lget_eq] at hf
  have hf' : fs[f]? = some fd := by rw [← Array.getElem?_toList]; exact hf
  simp only [List.append_nil] at hr
  simp [Instr.field, run_under hs, hf', asAgg, hr]
theorem indexAddr_run {t : TypeId} {x x' i i' u : Value} (h : indexAddrA P t x i = some u) (hx : VR σ x x') (hi : VR σ i i') (w : World) : ∃ u', VR σ u u' ∧ (Instr.indexAt t x' i').run P w = .ok u' w := by
  simp only [indexAddrA, ob_some] at h
  obtain ⟨d, hd, h⟩ := h
  split at h
  · rename_i len e
    simp only [ob_some, ptrV_some, idxAt, plainAt_some, numV_some, bt_some, blt_iff, ptrTo_eq, Option.some.injEq] at h
    obtain ⟨a, rfl, ha, n, ⟨k, rfl⟩, hlt, sz, hsz, rfl⟩ := h
    obtain rfl := hi.of_flat rfl
    rw [ha] at hx
    obtain ⟨b, d, hsb, rfl⟩ := hx.ptr_inv
    refine ⟨_, .ptr hsb, ?_⟩
    have h1 : (0 : Int) ≤ Int.ofNat n ∧ Int.ofNat n < (len : Int) := ⟨by simp, by simpa using hlt⟩
    simp only [Instr.indexAt, asIntOf, Sem.run_bind, Sem.run_pure, Result.andThen_ok, run_under hd, Instr.sureAddr, if_pos h1, run_size hsz, add_plain]
    rfl
  · rename_i e
    split at h
    · rename_i a len cap
      simp only [ob_some, idxAt, plainAt_some, numV_some, bt_some, blt_iff, ptrTo_eq, Option.some.injEq] at h
      obtain ⟨a, rfl, ha, n, ⟨k, rfl⟩, hlt, sz, hsz, rfl⟩ := h
      obtain rfl := hi.of_flat rfl
      rw [ha] at hx
      obtain ⟨b, d, hsb, rfl⟩ := hx.slice_inv
      refine ⟨_, .ptr hsb, ?_⟩
      have h1 : (0 : Int) ≤ Int.ofNat n ∧ Int.ofNat n < (len : Int) := ⟨by simp, by simpa using hlt⟩
      simp only [Instr.indexAt, asIntOf, Sem.run_bind, Sem.run_pure, Result.andThen_ok, run_under hd, if_pos h1, run_size hsz, add_plain]
      rfl
    · cases h
  · cases h
theorem index_run {t : TypeId} {x x' i i' u : Value} (h : indexA P t x i = some u) (hx : VR σ x x') (hi : VR σ i i') (w : World) : ∃ u', VR σ u u' ∧ (Instr.index t x' i').run P w = .ok u' w := by
  simp only [indexA, ob_some] at h
  obtain ⟨d, hd, h⟩ := h
  split at h
  · rename_i len e
    simp only [ob_some, aggV_some, numV_some, bt_some, blt_iff] at h
    obtain ⟨c, rfl, n, ⟨k, rfl⟩, hlt, sz, hsz, h⟩ := h
    obtain rfl := hi.of_flat rfl
    obtain ⟨c', hc, rfl⟩ := hx.agg_inv
    obtain ⟨u', hu, hr⟩ := run_part h hc [] w
    refine ⟨u', hu, ?_⟩
    have h1 : (0 : Int) ≤ Int.ofNat n ∧ Int.ofNat n < (len : Int) := ⟨by simp, by simpa using hlt⟩
    simp only [List.append_nil] at hr
    simp only [Instr.index, asIntOf, Sem.run_bind, Sem.run_pure, Result.andThen_ok, run_under hd, if_pos h1, run_size hsz]
    exact hr
  · simp only [ob_some, strV_some, numV_some, natV_eq, Option.some.injEq] at h
    obtain ⟨s, rfl, n, ⟨k, rfl⟩, b, hb, rfl⟩ := h
    obtain rfl := hi.of_flat rfl
    obtain rfl := hx.of_flat rfl
    rw [lget_eq] at hb
    refine ⟨_, .flat rfl, ?_⟩
    have h0 : (0 : Int) ≤ Int.ofNat n := by simp
    have hlt : n < s.length := by
      rcases Nat.lt_or_ge n s.length with h' | h'
      · exact h'
      · rw [List.getElem?_eq_none h'] at hb; cases hb
    have hg : (⟨⟨s⟩⟩ : ByteArray)[(Int.ofNat n).toNat]? = some b := by
      have hn : (Int.ofNat n).toNat = n := rfl
      rw [hn]
      have hsz : n < (⟨⟨s⟩⟩ : ByteArray).size := hlt
      rw [getElem?_pos (⟨⟨s⟩⟩ : ByteArray) n hsz]
      have : (⟨⟨s⟩⟩ : ByteArray)[n] = s[n] := rfl
      rw [this]
      rw [List.getElem?_eq_getElem hlt] at hb
      exact hb
    simp only [mkStr, Instr.index, asIntOf, Sem.run_bind, Sem.run_pure, Result.andThen_ok, run_under hd, if_pos h0, hg]
    rfl
  · cases h
end Go.Ev
