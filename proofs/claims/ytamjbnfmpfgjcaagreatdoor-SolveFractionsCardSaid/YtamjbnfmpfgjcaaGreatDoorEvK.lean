/- The evaluator: how the memory changes. -/
import Derived.Test.YtamjbnfmpfgjcaaGreatDoorEvJ
namespace Go.Ev
variable {P : Program} {σ σ' : Sg} {A : AW} {w w' : World}

theorem ER.sub (h : Sub σ σ') : ∀ {l l' : List MapEntry}, ER σ l l' → ER σ' l l'
  | _, _, .nil => .nil
  | _, _, .cons h1 h2 h3 h4 h5 => .cons h1 h2 (h3.sub h) h4 (h5.sub h)
theorem RowR.sub (h : Sub σ σ') {d : Nat} {c : List Value} {e : TypeId} {m : Md} {c' : Array Value} {fz : Nat × Nat} (k : RowR P σ d c e m c' fz) : RowR P σ' d c e m c' fz := by
  obtain ⟨cs, x, h1, h2, h3⟩ := k.cells
  exact ⟨⟨cs, x, h1, h2.sub h, h3⟩, k.exact_, k.cap, k.free⟩
theorem OR.sub (h : Sub σ σ') {d : Nat} {o : AO} {x : Obj} (k : OR P σ d o x) : OR P σ' d o x := by
  unfold OR at k ⊢
  split at k
  · exact ⟨k.1, k.2.sub h⟩
  · exact ⟨k.1, k.2.sub h⟩
  · exact k.elim
theorem heap_put (i : Nat) (o : AO) (j : Nat) : (A.put i o).heap.get j = if j = i then some o else A.heap.get j := get_set o A.heap i j
theorem heap_add (o : AO) (j : Nat) : (A.add o).heap.get j = if j = A.next then some o else A.heap.get j := get_set o A.heap A.next j
/-- One object is written. -/
theorem Rel.upd (hR : Rel P σ A w) {i b d : Nat} {o o2 : AO} {x : Obj} (hs : σ i = some (b, d)) (hg : A.heap.get i = some o) (ho : mayW o = true)
    (hx : w'.heap[b]? = some x) (hor : OR P σ d o2 x) (hoth : ∀ k, k ≠ b → w'.heap[k]? = w.heap[k]?) (hsz : w'.heap.size = w.heap.size) (h1 : w'.os = w.os) (h2 : w'.tape = w.tape) (h3 : w'.output = w.output) :
    Rel P σ (A.put i o2) w' ∧ Step σ A w σ (A.put i o2) w' := by
  have hl := live_of_mayW ho
  have hin : i < A.next := Nat.lt_of_not_le fun hle => by rw [hR.lim i hle] at hs; cases hs
  refine ⟨⟨?_, ?_, hR.lim, hR.glob, fun j hj => by rw [heap_put, if_neg (by intro e; subst e; exact Nat.lt_irrefl _ (Nat.lt_of_lt_of_le hin hj))]; exact hR.top j hj⟩, ⟨fun _ _ => rfl, Nat.le_refl _, h1, h2, h3, by omega, ?_, ?_, ?_, ?_⟩⟩
  · intro j b' d' oj hj hgj hlj
    rw [heap_put] at hgj
    split at hgj
    · rename_i e; subst e; cases hgj
      rw [hs] at hj; cases hj
      exact ⟨x, hx, hor⟩
    · rename_i hne
      obtain ⟨y, hy, hor'⟩ := hR.obj j b' d' oj hj hgj hlj
      refine ⟨y, ?_, hor'⟩
      rw [hoth b' (fun e => by subst e; exact hne (hR.inj j i b' d' d oj o hj hs hgj hg hlj hl))]
      exact hy
  · intro j k b' d1 d2 oj ok hj hk hgj hgk hlj hlk
    rw [heap_put] at hgj hgk
    split at hgj <;> split at hgk
    · simp_all
    · rename_i e _; subst e; exact hR.inj _ _ b' d1 d2 o ok hj hk hg hgk hl hlk
    · rename_i _ e; subst e; exact hR.inj _ _ b' d1 d2 oj o hj hk hgj hg hlj hl
    · exact hR.inj _ _ b' d1 d2 oj ok hj hk hgj hgk hlj hlk
  · intro k _ hn
    exact hoth k (fun e => hn (by subst e; exact ⟨i, d, o, hs, hg, ho⟩))
  · rintro k _ ⟨j, d', oj, hj, hgj, hw⟩
    rw [heap_put] at hgj
    split at hgj
    · rename_i e; subst e; rw [hs] at hj; cases hj; exact ⟨j, d, o, hs, hg, ho⟩
    · exact ⟨j, d', oj, hj, hgj, hw⟩
  · intro j b' d' oj hle hj _ _ _
    rw [hR.lim j hle] at hj; cases hj
  · intro j oj _ hgj hlj
    rw [heap_put] at hgj
    split at hgj
    · rename_i e; subst e; exact ⟨o, hg, hl⟩
    · exact ⟨oj, hgj, hlj⟩
def ext (σ : Sg) (i : Nat) (p : Nat × Nat) : Sg := fun j => if j = i then some p else σ j
theorem ext_self (i : Nat) (p : Nat × Nat) : ext σ i p i = some p := if_pos rfl
theorem ext_other {i j : Nat} (p : Nat × Nat) (h : j ≠ i) : ext σ i p j = σ j := if_neg h
theorem sub_ext {i : Nat} (p : Nat × Nat) (h : σ i = none) : Sub σ (ext σ i p) := fun j q hq => by
  by_cases e : j = i
  · subst e; rw [h] at hq; cases hq
  · rw [ext_other p e]; exact hq
/-- A new object; the block is new. -/
theorem Rel.new (hR : Rel P σ A w) {o : AO} {x : Obj} {d : Nat} (hh : w'.heap = w.heap.push x) (hor : OR P σ d o x) (h1 : w'.os = w.os) (h2 : w'.tape = w.tape) (h3 : w'.output = w.output) :
    Rel P (ext σ A.next (w.heap.size, d)) (A.add o) w' ∧ Step σ A w (ext σ A.next (w.heap.size, d)) (A.add o) w' := by
  have hn := hR.lim A.next (Nat.le_refl _)
  have hsub := sub_ext (w.heap.size, d) hn
  have hold : ∀ k, k < w.heap.size → w'.heap[k]? = w.heap[k]? := fun k hk => by rw [hh, Array.getElem?_push_lt hk, Array.getElem?_eq_getElem hk]
  have hnew : w'.heap[w.heap.size]? = some x := by rw [hh]; simp
  have hlt : ∀ {k y}, w.heap[k]? = some y → k < w.heap.size := fun {k y} h => (Array.getElem?_eq_some_iff.1 h).1
  have hnone : ∀ i d' o', σ i = some (w.heap.size, d') → A.heap.get i = some o' → live o' = true → False := fun i d' o' hi hg hl => by
    obtain ⟨y, hy, _⟩ := hR.obj i _ d' o' hi hg hl
    exact Nat.lt_irrefl _ (hlt hy)
  refine ⟨⟨?_, ?_, ?_, ?_, fun j hj => by have hj : A.next + 1 ≤ j := hj; rw [heap_add, if_neg (by omega)]; exact hR.top j (by omega)⟩, ⟨?_, Nat.le_succ _, h1, h2, h3, by rw [hh]; simp, fun k hk _ => hold k hk, ?_, ?_, ?_⟩⟩
  · intro j b' d' oj hj hgj hlj
    rw [heap_add] at hgj
    by_cases e : j = A.next
    · subst e; rw [if_pos rfl] at hgj; cases hgj
      rw [ext_self] at hj; cases hj
      exact ⟨x, hnew, hor.sub hsub⟩
    · rw [if_neg e] at hgj; rw [ext_other _ e] at hj
      obtain ⟨y, hy, hor'⟩ := hR.obj j b' d' oj hj hgj hlj
      exact ⟨y, by rw [hold _ (hlt hy)]; exact hy, hor'.sub hsub⟩
  · intro j k b' d1 d2 oj ok hj hk hgj hgk hlj hlk
    rw [heap_add] at hgj hgk
    by_cases e : j = A.next <;> by_cases e2 : k = A.next
    · rw [e, e2]
    · subst e; rw [ext_self] at hj; cases hj; rw [ext_other _ e2] at hk; rw [if_neg e2] at hgk; exact (hnone k d2 ok hk hgk hlk).elim
    · subst e2; rw [ext_self] at hk; cases hk; rw [ext_other _ e] at hj; rw [if_neg e] at hgj; exact (hnone j d1 oj hj hgj hlj).elim
    · rw [ext_other _ e] at hj; rw [ext_other _ e2] at hk; rw [if_neg e] at hgj; rw [if_neg e2] at hgk
      exact hR.inj _ _ b' d1 d2 oj ok hj hk hgj hgk hlj hlk
  · intro i hi
    have hi : A.next + 1 ≤ i := hi
    rw [ext_other _ (by omega)]
    exact hR.lim i (by omega)
  · intro g hg
    rw [ext_other _ (fun e => by have := hR.glob g hg; rw [e, hn] at this; cases this)]
    exact hR.glob g hg
  · intro i hi; exact ext_other _ (by omega)
  · rintro k hk ⟨j, d', oj, hj, hgj, hw⟩
    rw [heap_add] at hgj
    by_cases e : j = A.next
    · subst e; rw [ext_self] at hj; cases hj; exact (Nat.lt_irrefl _ hk).elim
    · rw [if_neg e] at hgj; rw [ext_other _ e] at hj; exact ⟨j, d', oj, hj, hgj, hw⟩
  · intro i b' d' oi hle hi hgi hli hb
    by_cases e : i = A.next
    · subst e; rw [ext_self] at hi; cases hi; exact (Nat.lt_irrefl _ hb).elim
    · rw [ext_other _ e, hR.lim i hle] at hi; cases hi
  · intro i oi hi hgi hli
    rw [heap_add, if_neg (by omega)] at hgi
    exact ⟨oi, hgi, hli⟩
/-- A place dies. -/
theorem Rel.kill (hR : Rel P σ A w) {i : Nat} (hin : i < A.next) : Rel P σ (A.put i .dead) w ∧ Step σ A w σ (A.put i .dead) w := by
  refine ⟨⟨?_, ?_, hR.lim, hR.glob, fun j hj => by rw [heap_put, if_neg (by intro e; subst e; exact Nat.lt_irrefl _ (Nat.lt_of_lt_of_le hin hj))]; exact hR.top j hj⟩, ⟨fun _ _ => rfl, Nat.le_refl _, rfl, rfl, rfl, Nat.le_refl _, fun _ _ _ => rfl, ?_, ?_, ?_⟩⟩
  · intro j b' d' oj hj hgj hlj
    rw [heap_put] at hgj
    split at hgj
    · cases hgj; cases hlj
    · exact hR.obj j b' d' oj hj hgj hlj
  · intro j k b' d1 d2 oj ok hj hk hgj hgk hlj hlk
    rw [heap_put] at hgj hgk
    split at hgj
    · cases hgj; cases hlj
    · split at hgk
      · cases hgk; cases hlk
      · exact hR.inj _ _ b' d1 d2 oj ok hj hk hgj hgk hlj hlk
  · rintro k _ ⟨j, d', oj, hj, hgj, hw⟩
    rw [heap_put] at hgj
    split at hgj
    · cases hgj; cases hw
    · exact ⟨j, d', oj, hj, hgj, hw⟩
  · intro j b' d' oj hle hj _ _ _
    rw [hR.lim j hle] at hj; cases hj
  · intro j oj _ hgj hlj
    rw [heap_put] at hgj
    split at hgj
    · cases hgj; cases hlj
    · exact ⟨oj, hgj, hlj⟩
/-- A place dies, and another one takes its block. -/
theorem Rel.move (hR : Rel P σ A w) {i b d d2 : Nat} {o o2 : AO} {x : Obj} (hs : σ i = some (b, d)) (hg : A.heap.get i = some o) (ho : mayW o = true)
    (hx : w'.heap[b]? = some x) (hor : OR P σ d2 o2 x) (hoth : ∀ k, k ≠ b → w'.heap[k]? = w.heap[k]?) (hsz : w'.heap.size = w.heap.size) (h1 : w'.os = w.os) (h2 : w'.tape = w.tape) (h3 : w'.output = w.output) :
    Rel P (ext σ A.next (b, d2)) ((A.put i .dead).add o2) w' ∧ Step σ A w (ext σ A.next (b, d2)) ((A.put i .dead).add o2) w' := by
  have hn := hR.lim A.next (Nat.le_refl _)
  have hsub := sub_ext (b, d2) hn
  have hl := live_of_mayW ho
  have hga : ∀ j, ((A.put i .dead).add o2).heap.get j = if j = A.next then some o2 else if j = i then some .dead else A.heap.get j := fun j => by rw [heap_add, heap_put]; rfl
  have hin : i ≠ A.next := fun e => by rw [e, hn] at hs; cases hs
  have hoth' : ∀ j dj oj, j ≠ i → σ j = some (b, dj) → A.heap.get j = some oj → live oj = true → False := fun j dj oj hne hj hgj hlj => hne (hR.inj j i b dj d oj o hj hs hgj hg hlj hl)
  have hlt : i < A.next := Nat.lt_of_not_le fun hle => by rw [hR.lim i hle] at hs; cases hs
  refine ⟨⟨?_, ?_, ?_, ?_, fun j hj => by have hj : A.next + 1 ≤ j := hj; rw [hga, if_neg (by omega), if_neg (by omega)]; exact hR.top j (by omega)⟩, ⟨?_, Nat.le_succ _, h1, h2, h3, by omega, ?_, ?_, ?_, ?_⟩⟩
  · intro j b' d' oj hj hgj hlj
    rw [hga] at hgj
    by_cases e : j = A.next
    · subst e; rw [if_pos rfl] at hgj; cases hgj
      rw [ext_self] at hj; cases hj
      exact ⟨x, hx, hor.sub hsub⟩
    · rw [if_neg e] at hgj; rw [ext_other _ e] at hj
      split at hgj
      · cases hgj; cases hlj
      · rename_i hne
        obtain ⟨y, hy, hor'⟩ := hR.obj j b' d' oj hj hgj hlj
        exact ⟨y, by rw [hoth _ (fun e => by subst e; exact hoth' j d' oj hne hj hgj hlj)]; exact hy, hor'.sub hsub⟩
  · intro j k b' d1 d2' oj ok hj hk hgj hgk hlj hlk
    rw [hga] at hgj hgk
    by_cases e : j = A.next <;> by_cases e2 : k = A.next
    · rw [e, e2]
    · subst e; rw [ext_self] at hj; cases hj; rw [ext_other _ e2] at hk; rw [if_neg e2] at hgk
      split at hgk
      · cases hgk; cases hlk
      · rename_i hne; exact (hoth' k d2' ok hne hk hgk hlk).elim
    · subst e2; rw [ext_self] at hk; cases hk; rw [ext_other _ e] at hj; rw [if_neg e] at hgj
      split at hgj
      · cases hgj; cases hlj
      · rename_i hne; exact (hoth' j d1 oj hne hj hgj hlj).elim
    · rw [ext_other _ e] at hj; rw [ext_other _ e2] at hk; rw [if_neg e] at hgj; rw [if_neg e2] at hgk
      split at hgj
      · cases hgj; cases hlj
      · split at hgk
        · cases hgk; cases hlk
        · exact hR.inj _ _ b' d1 d2' oj ok hj hk hgj hgk hlj hlk
  · intro k hk
    have hk : A.next + 1 ≤ k := hk
    rw [ext_other _ (by omega)]
    exact hR.lim k (by omega)
  · intro g hgg
    rw [ext_other _ (fun e => by have := hR.glob g hgg; rw [e, hn] at this; cases this)]
    exact hR.glob g hgg
  · intro k hk; exact ext_other _ (by omega)
  · intro k _ hnw
    exact hoth k (fun e => hnw (by subst e; exact ⟨i, d, o, hs, hg, ho⟩))
  · rintro k hk ⟨j, d', oj, hj, hgj, hw⟩
    rw [hga] at hgj
    by_cases e : j = A.next
    · subst e; rw [ext_self] at hj; cases hj; exact ⟨i, d, o, hs, hg, ho⟩
    · rw [if_neg e] at hgj; rw [ext_other _ e] at hj
      split at hgj
      · cases hgj; cases hw
      · exact ⟨j, d', oj, hj, hgj, hw⟩
  · intro j b' d' oj hle hj hgj hlj hb
    by_cases e : j = A.next
    · subst e; rw [ext_self] at hj; cases hj; exact ⟨i, d, o, hs, hg, ho⟩
    · rw [ext_other _ e, hR.lim j hle] at hj; cases hj
  · intro j oj hj hgj hlj
    rw [hga, if_neg (by omega)] at hgj
    split at hgj
    · cases hgj; cases hlj
    · exact ⟨oj, hgj, hlj⟩
theorem Rel.lt (hR : Rel P σ A w) {i : Nat} {p : Nat × Nat} (h : σ i = some p) : i < A.next := Nat.lt_of_not_le fun hle => by rw [hR.lim i hle] at h; cases h

/- Cells are written. -/
theorem cellsStored {b o : Nat} {e : TypeId} {fz : Nat × Nat} : ∀ (vs : List Value) (k : Nat) (c : Array Value) (w : World), w.heap[b]? = some (.cells c e fz) → o + k + vs.length ≤ c.size → (∀ v ∈ vs, v.oneCell = true) → unfrozen c.size fz →
    ∃ w', (storeCells ⟨b, o, none⟩ vs k).run P w = .ok () w' ∧ w'.heap[b]? = some (.cells ⟨c.toList.take (o + k) ++ (vs ++ c.toList.drop (o + k + vs.length))⟩ e fz) ∧ (∀ j, j ≠ b → w'.heap[j]? = w.heap[j]?) ∧
      w'.heap.size = w.heap.size ∧ w'.os = w.os ∧ w'.tape = w.tape ∧ w'.output = w.output := by
  intro vs
  induction vs with
  | nil => intro k c w hw _ _ _; exact ⟨w, rfl, by simpa using hw, fun _ _ => rfl, rfl, rfl, rfl, rfl⟩
  | cons v vs ih =>
    intro k c w hw hle h1 hfz
    have hlen : o + k < c.size := by simp at hle; omega
    have hcell : w.cell? ⟨b, o + k, none⟩ = some c[o + k] := cell_of hw (by simp [hlen])
    have hfr : w.frozen? ⟨b, o + k, none⟩ = false := by
      have := hfz (o + k) hlen
      simp only [World.frozen?, hw]
      simpa using this
    have hone : v.oneCell = true := h1 v (by simp)
    have hst : (w.setCell ⟨b, o + k, none⟩ v).heap[b]? = some (.cells (c.setIfInBounds (o + k) v) e fz) := by simp [World.setCell, Array.getElem?_modify, hw]
    have hoth : ∀ j, j ≠ b → (w.setCell ⟨b, o + k, none⟩ v).heap[j]? = w.heap[j]? := fun j hj => heap_setCell_other w _ j v hj
    obtain ⟨w', hr, h2, h3, h4, h5, h6, h7⟩ := ih (k + 1) (c.setIfInBounds (o + k) v) (w.setCell ⟨b, o + k, none⟩ v) hst (by simp at hle ⊢; omega) (fun x hx => h1 x (by simp [hx])) (by simpa using hfz)
    refine ⟨w', ?_, ?_, fun j hj => (h3 j hj).trans (hoth j hj), by rw [h4]; simp, by rw [h5]; rfl, by rw [h6]; rfl, by rw [h7]; rfl⟩
    · have hgo : (store ((⟨b, o, none⟩ : Addr).add k) v).run P w = .ok () (w.setCell ⟨b, o + k, none⟩ v) := by
        rw [add_plain]
        unfold store
        cases v <;> first | (cases hone; done) | (simp only [Sem.run, hcell, hfr]; rfl)
      simp only [storeCells, Sem.run_bind, hgo, Result.andThen_ok]
      exact hr
    · rw [h2]
      simp only [Array.toList_setIfInBounds]
      have hlt : o + k < c.toList.length := by simpa using hlen
      have ht : (c.toList.set (o + k) v).take (o + k + 1) = c.toList.take (o + k) ++ [v] := by
        rw [List.take_add_one, List.take_set_of_le (Nat.le_refl _), List.getElem?_set_self hlt]
        rfl
      rw [show o + (k + 1) = o + k + 1 by omega, ht, List.drop_set_of_lt (by omega)]
      simp only [List.length_cons, List.append_assoc, List.cons_append, List.nil_append]
      rw [show o + k + 1 + vs.length = o + k + (vs.length + 1) by omega]
/-- Cells written into a row: what the row is then. -/
theorem RowR.over {d o : Nat} {c xs c2 xs' : List Value} {e : TypeId} {m : Md} {c' : Array Value} {fz : Nat × Nat} (h : RowR P σ d c e m c' fz) (hx : VRL σ xs xs') (ho : lover xs o c = some c2) :
    o + xs'.length ≤ c'.size ∧ RowR P σ d c2 e m ⟨c'.toList.take o ++ (xs' ++ c'.toList.drop (o + xs'.length))⟩ fz := by
  obtain ⟨rfl, hle⟩ := lover_some _ _ _ _ ho
  obtain ⟨cs, x, ec, hc, hr⟩ := h.cells
  have hl := hc.length
  have hxl := hx.length
  have hsz : c'.size = cs.length + x.length := by have := congrArg List.length ec; simpa using this
  have hle' : o + xs'.length ≤ c'.size := by omega
  refine ⟨hle', ⟨⟨cs.take o ++ (xs' ++ cs.drop (o + xs'.length)), x, ?_, ?_, hr⟩, h.exact_, ?_, ?_⟩⟩
  · show c'.toList.take o ++ (xs' ++ c'.toList.drop (o + xs'.length)) = _
    rw [ec, List.take_append_of_le_length (by omega), List.drop_append_of_le_length (by omega)]
    simp [List.append_assoc]
  · rw [hxl]; exact (hc.take o).append (hx.append (hc.drop _))
  · intro rc hm
    obtain ⟨i, hi, he⟩ := h.cap rc hm
    refine ⟨i, hi, ?_⟩
    rw [← he]
    simp [List.length_append]
    omega
  · intro hm
    have := h.free hm
    have e2 : (⟨c'.toList.take o ++ (xs' ++ c'.toList.drop (o + xs'.length))⟩ : Array Value).size = c'.size := by simp; omega
    rw [e2]; exact this
end Go.Ev
