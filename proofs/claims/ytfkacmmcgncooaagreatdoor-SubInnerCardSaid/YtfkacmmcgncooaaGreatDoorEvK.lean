/- The evaluator: how the memory changes. -/
import Derived.Test.YtfkacmmcgncooaaGreatDoorEvH
section
set_option linter.unusedSectionVars false
namespace Go.Ev
variable {P : Program} {σ σ' : Sg} {A : AW} {w w' : World} [Frozen P]
theorem ER.sub (h : Sub σ σ') : ∀ {l l' : List MapEntry}, ER σ l l' → ER σ' l l'
  | _, _, .nil => .nil
  | _, _, .cons h1 h2 h3 h4 h5 => .cons h1 h2 (h3.sub h) h4 (h5.sub h)
theorem RowR.sub (h : Sub σ σ') {d : Nat} {c : List Value} {e : TypeId} {m : Md} {c' : Array Value} {fz : Nat × Nat} (k : RowR P σ d c e m c' fz) : RowR P σ' d c e m c' fz := by
  obtain ⟨cs, x, h1, h2, h3⟩ := k.cells
  exact ⟨⟨cs, x, h1, h2.sub h, h3⟩, k.exact_, k.cap, k.free⟩
theorem OR.sub (h : Sub σ σ') {d : Nat} {o : AO} {x : Obj} (k : OR P σ d o x) : OR P σ' d o x := by
  unfold OR at k ⊢
  split at k
  · exact ⟨k.1, k.2.sub h⟩
  · exact ⟨k.1, k.2.sub h⟩
  · exact k.elim
theorem heap_put (i : Nat) (o : AO) (j : Nat) : (A.put i o).heap.get j = if j = i then some o else A.heap.get j := get_set o A.heap i j
theorem heap_add (o : AO) (j : Nat) : (A.add o).heap.get j = if j = A.next then some o else A.heap.get j := get_set o A.heap A.next j
theorem Rel.upd (hR : Rel P σ A w) {i b d : Nat} {o o2 : AO} {x : Obj} (hs : σ i = some (b, d)) (hg : A.heap.get i = some o) (ho : mayW o = true)
    (hx : w'.heap[b]? = some x) (hor : OR P σ d o2 x) (hoth : ∀ k, k ≠ b → w'.heap[k]? = w.heap[k]?) (hsz : w'.heap.size = w.heap.size) (h1 : w'.os = w.os) (h2 : w'.tape = w.tape) (h3 : w'.output = w.output) :
    Rel P σ (A.put i o2) w' ∧ Step σ A w σ (A.put i o2) w' := by
  have hl := live_of_mayW ho
  have hin : i < A.next := Nat.lt_of_not_le fun hle => by rw [hR.lim i hle] at hs; cases hs
  refine hR.both ⟨⟨?_, ?_, hR.lim, hR.glob, fun j hj => by rw [heap_put, if_neg (by intro e; subst e; exact Nat.lt_irrefl _ (Nat.lt_of_lt_of_le hin hj))]; exact hR.top j hj⟩, ⟨fun _ _ => rfl, Nat.le_refl _, h1, h2, h3, by omega, ?_, ?_, ?_, ?_⟩⟩
  · intro j b' d' oj hj hgj hlj
    rw [heap_put] at hgj
    split at hgj
    · rename_i e; subst e; cases hgj
      rw [hs] at hj; cases hj
      exact ⟨x, hx, hor⟩
    · rename_i hne
      obtain ⟨y, hy, hor'⟩ := hR.obj j b' d' oj hj hgj hlj
      refine ⟨y, ?_, hor'⟩
      rw [hoth b' (fun e => by subst e; exact hne (hR.inj j i b' d' d oj o hj hs hgj hg hlj hl (by rw [ho, Bool.or_true])))]
      exact hy
  · intro j k b' d1 d2 oj ok hj hk hgj hgk hlj hlk hjk
    rw [heap_put] at hgj hgk
    split at hgj <;> split at hgk
    · simp_all
    · rename_i e _; subst e; exact hR.inj _ _ b' d1 d2 o ok hj hk hg hgk hl hlk (by rw [ho, Bool.true_or])
    · rename_i _ e; subst e; exact hR.inj _ _ b' d1 d2 oj o hj hk hgj hg hlj hl (by rw [ho, Bool.or_true])
    · exact hR.inj _ _ b' d1 d2 oj ok hj hk hgj hgk hlj hlk hjk
  · intro k _ hn
    exact hoth k (fun e => hn (by subst e; exact ⟨i, d, o, hs, hg, ho⟩))
  · rintro k _ ⟨j, d', oj, hj, hgj, hw⟩
    rw [heap_put] at hgj
    split at hgj
    · rename_i e; subst e; rw [hs] at hj; cases hj; exact ⟨j, d, o, hs, hg, ho⟩
    · exact ⟨j, d', oj, hj, hgj, hw⟩
  · intro j b' d' oj hle hj _ _ _
    rw [hR.lim j hle] at hj; cases hj
  · intro j oj _ hgj hlj
    rw [heap_put] at hgj
    split at hgj
    · rename_i e; subst e; exact ⟨o, hg, hl⟩
    · exact ⟨oj, hgj, hlj⟩
def ext (σ : Sg) (i : Nat) (p : Nat × Nat) : Sg := fun j => if j = i then some p else σ j
theorem ext_self (i : Nat) (p : Nat × Nat) : ext σ i p i = some p := if_pos rfl
theorem ext_other {i j : Nat} (p : Nat × Nat) (h : j ≠ i) : ext σ i p j = σ j := if_neg h
theorem sub_ext {i : Nat} (p : Nat × Nat) (h : σ i = none) : Sub σ (ext σ i p) := fun j q hq => by
  by_cases e : j = i
  · subst e; rw [h] at hq; cases hq
  · rw [ext_other p e]; exact hq
theorem Rel.new (hR : Rel P σ A w) {o : AO} {x : Obj} {d : Nat} (hh : w'.heap = w.heap.push x) (hor : OR P σ d o x) (h1 : w'.os = w.os) (h2 : w'.tape = w.tape) (h3 : w'.output = w.output) :
    Rel P (ext σ A.next (w.heap.size, d)) (A.add o) w' ∧ Step σ A w (ext σ A.next (w.heap.size, d)) (A.add o) w' := by
  have hn := hR.lim A.next (Nat.le_refl _)
  have hsub := sub_ext (w.heap.size, d) hn
  have hold : ∀ k, k < w.heap.size → w'.heap[k]? = w.heap[k]? := fun k hk => by rw [hh, Array.getElem?_push_lt hk, Array.getElem?_eq_getElem hk]
  have hnew : w'.heap[w.heap.size]? = some x := by rw [hh]; simp
  have hlt : ∀ {k y}, w.heap[k]? = some y → k < w.heap.size := fun {k y} h => (Array.getElem?_eq_some_iff.1 h).1
  have hnone : ∀ i d' o', σ i = some (w.heap.size, d') → A.heap.get i = some o' → live o' = true → False := fun i d' o' hi hg hl => by
    obtain ⟨y, hy, _⟩ := hR.obj i _ d' o' hi hg hl
    exact Nat.lt_irrefl _ (hlt hy)
  refine hR.both ⟨⟨?_, ?_, ?_, ?_, fun j hj => by have hj : A.next + 1 ≤ j := hj; rw [heap_add, if_neg (by omega)]; exact hR.top j (by omega)⟩, ⟨?_, Nat.le_succ _, h1, h2, h3, by rw [hh]; simp, fun k hk _ => hold k hk, ?_, ?_, ?_⟩⟩
  · intro j b' d' oj hj hgj hlj
    rw [heap_add] at hgj
    by_cases e : j = A.next
    · subst e; rw [if_pos rfl] at hgj; cases hgj
      rw [ext_self] at hj; cases hj
      exact ⟨x, hnew, hor.sub hsub⟩
    · rw [if_neg e] at hgj; rw [ext_other _ e] at hj
      obtain ⟨y, hy, hor'⟩ := hR.obj j b' d' oj hj hgj hlj
      exact ⟨y, by rw [hold _ (hlt hy)]; exact hy, hor'.sub hsub⟩
  · intro j k b' d1 d2 oj ok hj hk hgj hgk hlj hlk hjk
    rw [heap_add] at hgj hgk
    by_cases e : j = A.next <;> by_cases e2 : k = A.next
    · rw [e, e2]
    · subst e; rw [ext_self] at hj; cases hj; rw [ext_other _ e2] at hk; rw [if_neg e2] at hgk; exact (hnone k d2 ok hk hgk hlk).elim
    · subst e2; rw [ext_self] at hk; cases hk; rw [ext_other _ e] at hj; rw [if_neg e] at hgj; exact (hnone j d1 oj hj hgj hlj).elim
    · rw [ext_other _ e] at hj; rw [ext_other _ e2] at hk; rw [if_neg e] at hgj; rw [if_neg e2] at hgk
      exact hR.inj _ _ b' d1 d2 oj ok hj hk hgj hgk hlj hlk hjk
  · intro i hi
    have hi : A.next + 1 ≤ i := hi
    rw [ext_other _ (by omega)]
    exact hR.lim i (by omega)
  · intro g hg
    rw [ext_other _ (fun e => by have := hR.glob g hg; rw [e, hn] at this; cases this)]
    exact hR.glob g hg
  · intro i hi; exact ext_other _ (by omega)
  · rintro k hk ⟨j, d', oj, hj, hgj, hw⟩
    rw [heap_add] at hgj
    by_cases e : j = A.next
    · subst e; rw [ext_self] at hj; cases hj; exact (Nat.lt_irrefl _ hk).elim
    · rw [if_neg e] at hgj; rw [ext_other _ e] at hj; exact ⟨j, d', oj, hj, hgj, hw⟩
  · intro i b' d' oi hle hi hgi hli hb
    by_cases e : i = A.next
    · subst e; rw [ext_self] at hi; cases hi; exact (Nat.lt_irrefl _ hb).elim
    · rw [ext_other _ e, hR.lim i hle] at hi; cases hi
  · intro i oi hi hgi hli
    rw [heap_add, if_neg (by omega)] at hgi
    exact ⟨oi, hgi, hli⟩
theorem Rel.kill (hR : Rel P σ A w) {i : Nat} (hin : i < A.next) : Rel P σ (A.put i .dead) w ∧ Step σ A w σ (A.put i .dead) w := by
  refine hR.both ⟨⟨?_, ?_, hR.lim, hR.glob, fun j hj => by rw [heap_put, if_neg (by intro e; subst e; exact Nat.lt_irrefl _ (Nat.lt_of_lt_of_le hin hj))]; exact hR.top j hj⟩, ⟨fun _ _ => rfl, Nat.le_refl _, rfl, rfl, rfl, Nat.le_refl _, fun _ _ _ => rfl, ?_, ?_, ?_⟩⟩
  · intro j b' d' oj hj hgj hlj
    rw [heap_put] at hgj
    split at hgj
    · cases hgj; cases hlj
    · exact hR.obj j b' d' oj hj hgj hlj
  · intro j k b' d1 d2 oj ok hj hk hgj hgk hlj hlk hjk
    rw [heap_put] at hgj hgk
    split at hgj
    · cases hgj; cases hlj
    · split at hgk
      · cases hgk; cases hlk
      · exact hR.inj _ _ b' d1 d2 oj ok hj hk hgj hgk hlj hlk hjk
  · rintro k _ ⟨j, d', oj, hj, hgj, hw⟩
    rw [heap_put] at hgj
    split at hgj
    · cases hgj; cases hw
    · exact ⟨j, d', oj, hj, hgj, hw⟩
  · intro j b' d' oj hle hj _ _ _
    rw [hR.lim j hle] at hj; cases hj
  · intro j oj _ hgj hlj
    rw [heap_put] at hgj
    split at hgj
    · cases hgj; cases hlj
    · exact ⟨oj, hgj, hlj⟩
theorem Rel.move (hR : Rel P σ A w) {i b d d2 : Nat} {o o2 : AO} {x : Obj} (hs : σ i = some (b, d)) (hg : A.heap.get i = some o) (ho : mayW o = true)
    (hx : w'.heap[b]? = some x) (hor : OR P σ d2 o2 x) (hoth : ∀ k, k ≠ b → w'.heap[k]? = w.heap[k]?) (hsz : w'.heap.size = w.heap.size) (h1 : w'.os = w.os) (h2 : w'.tape = w.tape) (h3 : w'.output = w.output) :
    Rel P (ext σ A.next (b, d2)) ((A.put i .dead).add o2) w' ∧ Step σ A w (ext σ A.next (b, d2)) ((A.put i .dead).add o2) w' := by
  have hn := hR.lim A.next (Nat.le_refl _)
  have hsub := sub_ext (b, d2) hn
  have hl := live_of_mayW ho
  have hga : ∀ j, ((A.put i .dead).add o2).heap.get j = if j = A.next then some o2 else if j = i then some .dead else A.heap.get j := fun j => by rw [heap_add, heap_put]; rfl
  have hin : i ≠ A.next := fun e => by rw [e, hn] at hs; cases hs
  have hoth' : ∀ j dj oj, j ≠ i → σ j = some (b, dj) → A.heap.get j = some oj → live oj = true → False := fun j dj oj hne hj hgj hlj => hne (hR.inj j i b dj d oj o hj hs hgj hg hlj hl (by rw [ho, Bool.or_true]))
  have hlt : i < A.next := Nat.lt_of_not_le fun hle => by rw [hR.lim i hle] at hs; cases hs
  refine hR.both ⟨⟨?_, ?_, ?_, ?_, fun j hj => by have hj : A.next + 1 ≤ j := hj; rw [hga, if_neg (by omega), if_neg (by omega)]; exact hR.top j (by omega)⟩, ⟨?_, Nat.le_succ _, h1, h2, h3, by omega, ?_, ?_, ?_, ?_⟩⟩
  · intro j b' d' oj hj hgj hlj
    rw [hga] at hgj
    by_cases e : j = A.next
    · subst e; rw [if_pos rfl] at hgj; cases hgj
      rw [ext_self] at hj; cases hj
      exact ⟨x, hx, hor.sub hsub⟩
    · rw [if_neg e] at hgj; rw [ext_other _ e] at hj
      split at hgj
      · cases hgj; cases hlj
      · rename_i hne
        obtain ⟨y, hy, hor'⟩ := hR.obj j b' d' oj hj hgj hlj
        exact ⟨y, by rw [hoth _ (fun e => by subst e; exact hoth' j d' oj hne hj hgj hlj)]; exact hy, hor'.sub hsub⟩
  · intro j k b' d1 d2' oj ok hj hk hgj hgk hlj hlk hjk
    rw [hga] at hgj hgk
    by_cases e : j = A.next <;> by_cases e2 : k = A.next
    · rw [e, e2]
    · subst e; rw [ext_self] at hj; cases hj; rw [ext_other _ e2] at hk; rw [if_neg e2] at hgk
      split at hgk
      · cases hgk; cases hlk
      · rename_i hne; exact (hoth' k d2' ok hne hk hgk hlk).elim
    · subst e2; rw [ext_self] at hk; cases hk; rw [ext_other _ e] at hj; rw [if_neg e] at hgj
      split at hgj
      · cases hgj; cases hlj
      · rename_i hne; exact (hoth' j d1 oj hne hj hgj hlj).elim
    · rw [ext_other _ e] at hj; rw [ext_other _ e2] at hk; rw [if_neg e] at hgj; rw [if_neg e2] at hgk
      split at hgj
      · cases hgj; cases hlj
      · split at hgk
        · cases hgk; cases hlk
        · exact hR.inj _ _ b' d1 d2' oj ok hj hk hgj hgk hlj hlk hjk
  · intro k hk
    have hk : A.next + 1 ≤ k := hk
    rw [ext_other _ (by omega)]
    exact hR.lim k (by omega)
  · intro g hgg
    rw [ext_other _ (fun e => by have := hR.glob g hgg; rw [e, hn] at this; cases this)]
    exact hR.glob g hgg
  · intro k hk; exact ext_other _ (by omega)
  · intro k _ hnw
    exact hoth k (fun e => hnw (by subst e; exact ⟨i, d, o, hs, hg, ho⟩))
  · rintro k hk ⟨j, d', oj, hj, hgj, hw⟩
    rw [hga] at hgj
    by_cases e : j = A.next
    · subst e; rw [ext_self] at hj; cases hj; exact ⟨i, d, o, hs, hg, ho⟩
    · rw [if_neg e] at hgj; rw [ext_other _ e] at hj
      split at hgj
      · cases hgj; cases hw
      · exact ⟨j, d', oj, hj, hgj, hw⟩
  · intro j b' d' oj hle hj hgj hlj hb
    by_cases e : j = A.next
    · subst e; rw [ext_self] at hj; cases hj; exact ⟨i, d, o, hs, hg, ho⟩
    · rw [ext_other _ e, hR.lim j hle] at hj; cases hj
  · intro j oj hj hgj hlj
    rw [hga, if_neg (by omega)] at hgj
    split at hgj
    · cases hgj; cases hlj
    · exact ⟨oj, hgj, hlj⟩
theorem Rel.lt (hR : Rel P σ A w) {i : Nat} {p : Nat × Nat} (h : σ i = some p) : i < A.next := Nat.lt_of_not_le fun hle => by rw [hR.lim i hle] at h; cases h
theorem cellsStored {b o : Nat} {e : TypeId} {fz : Nat × Nat} : ∀ (vs : List Value) (k : Nat) (c : Array Value) (w : World), w.heap[b]? = some (.cells c e fz) → o + k + vs.length ≤ c.size → (∀ v ∈ vs, v.oneCell = true) → unfrozen c.size fz →
    ∃ w', (storeCells ⟨b, o, none⟩ vs k).run P w = .ok () w' ∧ w'.heap[b]? = some (.cells ⟨c.toList.take (o + k) ++ (vs ++ c.toList.drop (o + k + vs.length))⟩ e fz) ∧ (∀ j, j ≠ b → w'.heap[j]? = w.heap[j]?) ∧
      w'.heap.size = w.heap.size ∧ w'.os = w.os ∧ w'.tape = w.tape ∧ w'.output = w.output := by
  intro vs
  induction vs with
  | nil => intro k c w hw _ _ _; exact ⟨w, rfl, by simpa using hw, fun _ _ => rfl, rfl, rfl, rfl, rfl⟩
  | cons v vs ih =>
    intro k c w hw hle h1 hfz
    have hlen : o + k < c.size := by simp at hle; omega
    have hcell : w.cell? ⟨b, o + k, none⟩ = some c[o + k] := cell_of hw (by simp [hlen])
    have hfr : w.frozen? ⟨b, o + k, none⟩ = false := by
      have := hfz (o + k) hlen
      simp only [World.frozen?, hw]
      simpa using this
    have hone : v.oneCell = true := h1 v (by simp)
    have hst : (w.setCell ⟨b, o + k, none⟩ v).heap[b]? = some (.cells (c.setIfInBounds (o + k) v) e fz) := by simp [World.setCell, Array.getElem?_modify, hw]
    have hoth : ∀ j, j ≠ b → (w.setCell ⟨b, o + k, none⟩ v).heap[j]? = w.heap[j]? := fun j hj => heap_setCell_other w _ j v hj
    obtain ⟨w', hr, h2, h3, h4, h5, h6, h7⟩ := ih (k + 1) (c.setIfInBounds (o + k) v) (w.setCell ⟨b, o + k, none⟩ v) hst (by simp at hle ⊢; omega) (fun x hx => h1 x (by simp [hx])) (by simpa using hfz)
    refine ⟨w', ?_, ?_, fun j hj => (h3 j hj).trans (hoth j hj), by rw [h4]; simp, by rw [h5]; rfl, by rw [h6]; rfl, by rw [h7]; rfl⟩
    · have hgo : (store ((⟨b, o, none⟩ : Addr).add k) v).run P w = .ok () (w.setCell ⟨b, o + k, none⟩ v) := by
        rw [add_plain]
        unfold store
        cases v <;> first | (cases hone; done) | (simp only [Sem.run, hcell, hfr]; rfl)
      simp only [storeCells, Sem.run_bind, hgo, Result.andThen_ok]
      exact hr
    · rw [h2]
      simp only [Array.toList_setIfInBounds]
      have hlt : o + k < c.toList.length := by simpa using hlen
      have ht : (c.toList.set (o + k) v).take (o + k + 1) = c.toList.take (o + k) ++ [v] := by
        rw [List.take_add_one, List.take_set_of_le (Nat.le_refl _), List.getElem?_set_self hlt]
        rfl
      rw [show o + (k + 1) = o + k + 1 by omega, ht, List.drop_set_of_lt (by omega)]
      simp only [List.length_cons, List.append_assoc, List.cons_append, List.nil_append]
      rw [show o + k + 1 + vs.length = o + k + (vs.length + 1) by omega]
theorem RowR.over {d o : Nat} {c xs c2 xs' : List Value} {e : TypeId} {m : Md} {c' : Array Value} {fz : Nat × Nat} (h : RowR P σ d c e m c' fz) (hx : VRL σ xs xs') (ho : lover xs o c = some c2) :
    o + xs'.length ≤ c'.size ∧ RowR P σ d c2 e m ⟨c'.toList.take o ++ (xs' ++ c'.toList.drop (o + xs'.length))⟩ fz := by
  obtain ⟨rfl, hle⟩ := lover_some _ _ _ _ ho
  obtain ⟨cs, x, ec, hc, hr⟩ := h.cells
  have hl := hc.length
  have hxl := hx.length
  have hsz : c'.size = cs.length + x.length := by have := congrArg List.length ec; simpa using this
  have hle' : o + xs'.length ≤ c'.size := by omega
  refine ⟨hle', ⟨⟨cs.take o ++ (xs' ++ cs.drop (o + xs'.length)), x, ?_, ?_, hr⟩, h.exact_, ?_, ?_⟩⟩
  · show c'.toList.take o ++ (xs' ++ c'.toList.drop (o + xs'.length)) = _
    rw [ec, List.take_append_of_le_length (by omega), List.drop_append_of_le_length (by omega)]
    simp [List.append_assoc]
  · rw [hxl]; exact (hc.take o).append (hx.append (hc.drop _))
  · intro rc hm
    intro i hi
    rw [← h.cap rc hm i hi]
    simp [List.length_append]
    omega
  · intro hm
    have := h.free hm
    have e2 : (⟨c'.toList.take o ++ (xs' ++ c'.toList.drop (o + xs'.length))⟩ : Array Value).size = c'.size := by simp; omega
    rw [e2]; exact this
end Go.Ev
end

/- The evaluator: operations that make or write memory. -/
section
set_option linter.unusedSectionVars false
namespace Go.Ev
variable {P : Program} {σ σ' : Sg} {A : AW} {w w' : World} [Frozen P]
theorem unfrozen_zero (n : Nat) : unfrozen n (0, 0) := fun o _ h => absurd h.2 (Nat.not_lt_zero _)
theorem rowR_own {c c' : List Value} {e : TypeId} (h : VRL σ c c') : RowR P σ 0 c e .own ⟨c'⟩ (0, 0) :=
  ⟨⟨c', [], by simp, h, fun _ => rfl⟩, fun _ => rfl, fun _ h => (by cases h), fun _ => unfrozen_zero _⟩
theorem rowR_grown {c cs x : List Value} {e : TypeId} {rc d : Nat} {i : TypeInfo} {fz : Nat × Nat} (h : VRL σ c cs) (hi : P.info? e = some i) (hs : (cs ++ x).length = (rc + d) * i.size) (hf : unfrozen (cs ++ x).length fz) :
    RowR P σ d c e (.grown rc) ⟨cs ++ x⟩ fz :=
  ⟨⟨cs, x, rfl, h, fun h => (by cases h)⟩, fun h => (by cases h), fun r hr j hj => (by cases hr; rw [hi] at hj; cases hj; exact hs), fun _ => hf⟩
theorem run_newObj (x : Obj) (w : World) : (newObj x).run P w = .ok w.heap.size { w with heap := w.heap.push x } := rfl
theorem run_newRow (e : TypeId) (c : Array Value) (w : World) : (newRow e c).run P w = .ok ⟨w.heap.size, 0, none⟩ { w with heap := w.heap.push (.cells c e) } := rfl
theorem Rel.newOwn (hR : Rel P σ A w) {c c' : List Value} (e : TypeId) (h : VRL σ c c') : ∃ σ', Rel P σ' (A.add (.row c e .own)) { w with heap := w.heap.push (.cells ⟨c'⟩ e) } ∧
    Step σ A w σ' (A.add (.row c e .own)) { w with heap := w.heap.push (.cells ⟨c'⟩ e) } ∧ σ' A.next = some (w.heap.size, 0) := by
  have := hR.new (w' := { w with heap := w.heap.push (.cells ⟨c'⟩ e) }) (o := .row c e .own) (x := .cells ⟨c'⟩ e) (d := 0) rfl ⟨.inr rfl, rowR_own h⟩ rfl rfl rfl
  exact ⟨_, this.1, this.2, ext_self _ _⟩
def Fine (P : Program) [Frozen P] (σ : Sg) (A : AW) (w : World) (r : Result Next) : Fx → Prop
  | .val v A' => ∃ v' σ' w', (r = .ok (.value v') w' ∨ (r = .ok .skip w' ∧ v' = undef)) ∧ VR σ' v v' ∧ Rel P σ' A' w' ∧ Step σ A w σ' A' w'
  | .enter f args A' => A' = A ∧ ∃ args', VRL σ args args' ∧ r = (callFunc f ⟨args'⟩).run P w
  | .defr d A' => A' = A ∧ ∃ fn cap cap' args args', d = ⟨.fn fn ⟨cap⟩, ⟨args⟩⟩ ∧ VRL σ cap cap' ∧ VRL σ args args' ∧ r = .ok (.defer ⟨.fn fn ⟨cap'⟩, ⟨args'⟩⟩) w
def Gives (P : Program) [Frozen P] (σ : Sg) (A : AW) (w : World) (r : Result Value) (v : Value) (A' : AW) : Prop := ∃ v' σ' w', r = .ok v' w' ∧ VR σ' v v' ∧ Rel P σ' A' w' ∧ Step σ A w σ' A' w'
def Does (P : Program) [Frozen P] (σ : Sg) (A : AW) (w : World) (r : Result Unit) (A' : AW) : Prop := ∃ w', r = .ok () w' ∧ Rel P σ A' w' ∧ Step σ A w σ A' w'
theorem Gives.fine {s : Sem Value} {v : Value} {A' : AW} (h : Gives P σ A w (s.run P w) v A') : Fine P σ A w ((do pure (.value (← s)) : Sem Next).run P w) (.val v A') := by
  obtain ⟨v', σ', w', h1, h2, h3, h4⟩ := h
  exact ⟨v', σ', w', .inl (by simp only [Sem.run_bind, h1, Result.andThen_ok, Sem.run_pure]), h2, h3, h4⟩
theorem Does.fine {s : Sem Unit} {A' : AW} (h : Does P σ A w (s.run P w) A') : Fine P σ A w ((do s; pure .skip : Sem Next).run P w) (.val (.tuple #[]) A') := by
  obtain ⟨w', h1, h2, h3⟩ := h
  exact ⟨undef, σ, w', .inr ⟨by simp only [Sem.run_bind, h1, Result.andThen_ok, Sem.run_pure], rfl⟩, .undef, h2, h3⟩
theorem fxv_some {x : Option (Value × AW)} {f : Fx} : fxv x = some f ↔ ∃ v A', x = some (v, A') ∧ f = .val v A' := by
  simp only [fxv, ob_some, Option.some.injEq]
  constructor
  · rintro ⟨⟨v, A'⟩, h, rfl⟩; exact ⟨v, A', h, rfl⟩
  · rintro ⟨v, A', h, rfl⟩; exact ⟨(v, A'), h, rfl⟩
theorem fxu_some {x : Option AW} {f : Fx} : fxu x = some f ↔ ∃ A', x = some A' ∧ f = .val (.tuple #[]) A' := by
  simp only [fxu, ob_some, Option.some.injEq]
  constructor
  · rintro ⟨A', h, rfl⟩; exact ⟨A', h, rfl⟩
  · rintro ⟨A', h, rfl⟩; exact ⟨A', h, rfl⟩
theorem alloc_run (hR : Rel P σ A w) {e : TypeId} {z : List Value} (hz : zeroA P e = some z) : Gives P σ A w ((Instr.alloc e true (.tuple #[])).run P w) (.pointer (some ⟨A.next, 0, none⟩)) (A.add (.row z e .own)) := by
  obtain ⟨v, hv, hc, hzz⟩ := run_zero (σ := σ) hz w
  obtain ⟨σ', h1, h2, h3⟩ := hR.newOwn e hzz
  exact ⟨_, σ', _, by simp only [Instr.alloc, newVar, Sem.run_bind, hv, Result.andThen_ok, hc, run_newRow, Sem.run_pure], .ptr h3, h1, h2⟩
theorem box_run (hR : Rel P σ A w) {e : TypeId} {v v' : Value} (hv : VR σ v v') (hk : notU v = true) : Gives P σ A w ((Instr.box e v').run P w) (.pointer (some ⟨A.next, 0, none⟩)) (A.add (.row (cellsA v) e .own)) := by
  obtain ⟨σ', h1, h2, h3⟩ := hR.newOwn e (hv.cells hk)
  exact ⟨_, σ', _, by simp only [Instr.box, newVar, Sem.run_bind, run_newRow, Result.andThen_ok, Sem.run_pure], .ptr h3, h1, h2⟩
theorem length_lrep {α : Type} (z : List α) : ∀ n, (lrep n z).length = n * z.length := by
  intro n
  induction n with
  | zero => show ([] : List α).length = _; simp
  | succ n ih => show (z ++ lrep n z).length = _; rw [List.length_append, ih, Nat.succ_mul]; omega
theorem get_lrep (z : List Value) : ∀ (n i : Nat), i < n * z.length → (lrep n z)[i]? = some (z.toArray[i % z.length]!) := by
  intro n
  induction n with
  | zero => intro i h; omega
  | succ n ih =>
    intro i h
    have h0 : 0 < z.length := by rcases Nat.eq_zero_or_pos z.length with e | e; rw [e] at h; omega; exact e
    show (z ++ lrep n z)[i]? = _
    by_cases hi : i < z.length
    · rw [List.getElem?_append_left hi, Nat.mod_eq_of_lt hi]
      simp [hi]
    · rw [List.getElem?_append_right (by omega), ih (i - z.length) (by rw [Nat.succ_mul] at h; omega)]
      rw [← Nat.mod_eq_sub_mod (by omega)]
theorem range_lrep (z : List Value) (n : Nat) : (Array.range (n * z.length)).map (fun i => (z.toArray : Array Value)[i % z.length]!) = ⟨lrep n z⟩ := by
  apply Array.toList_inj.1
  apply List.ext_getElem?
  intro i
  by_cases hi : i < n * z.length
  · show _ = (lrep n z)[i]?
    rw [get_lrep z n i hi]
    simp [hi]
  · show _ = (lrep n z)[i]?
    rw [List.getElem?_eq_none (by simp; omega), List.getElem?_eq_none (by rw [length_lrep]; omega)]
theorem lrep_nil_of {z : List Value} {n : Nat} (h : n * z.length = 0) : lrep n z = [] := List.eq_nil_of_length_eq_zero (by rw [length_lrep]; exact h)
theorem VRL.lrep {z z' : List Value} (h : VRL σ z z') : ∀ n, VRL σ (lrep n z) (Ev.lrep n z') := by
  intro n
  induction n with
  | zero => exact .nil
  | succ n ih => exact h.append ih
theorem buildSlice_run (hR : Rel P σ A w) {t : TypeId} {len : Nat} {ps ps' : List (Nat × Value)} {v : Value} {A' : AW} (h : buildSliceA P t len ps A = some (v, A')) (hp : PR σ ps ps') :
    Gives P σ A w ((Instr.buildSlice t len ⟨ps'⟩).run P w) v A' := by
  simp only [buildSliceA, ob_some, bt_some, sliceT_some, lenB_iff, bleIff, newSlice, Option.some.injEq, Prod.mk.injEq] at h
  obtain ⟨e, ht, n, hn, z, hz, hzl, hle, c, hc, rfl, rfl⟩ := h
  have hle : len * n ≤ 16777216 := hle
  obtain ⟨zv, hzr, hzc, hzz⟩ := run_zero (σ := σ) hz w
  obtain ⟨cs, h1, h2⟩ := fill_run (pl' := fun i => some (i * n, n)) (fun i q hq => hq) hp hc (hzz.lrep len)
  obtain ⟨σ', g1, g2, g3⟩ := hR.newOwn e h2
  refine ⟨_, σ', _, ?_, .slice g3, g1, g2⟩
  have hnle : ¬ (len * n > 2 ^ 24) := by omega
  have hcells : (if len * n = 0 then (pure #[] : Sem (Array Value)) else do pure (← zeroValue e).cells).run P w = .ok (if len * n = 0 then #[] else ⟨z⟩) w := by
    split
    · rfl
    · simp only [Sem.run_bind, hzr, Result.andThen_ok, Sem.run_pure, hzc]
  have hrange : (Array.range (len * n)).map (fun i => (if len * n = 0 then #[] else (⟨z⟩ : Array Value))[i % (if len * n = 0 then #[] else (⟨z⟩ : Array Value)).size]!) = ⟨lrep len z⟩ := by
    by_cases h0 : len * n = 0
    · rw [h0, lrep_nil_of (by rw [hzl]; exact h0)]; apply Array.toList_inj.1; simp
    · rw [if_neg h0, ← hzl]; exact range_lrep z len
  by_cases h0 : len * n = 0
  · simp only [if_pos h0] at hrange
    simp only [Instr.buildSlice, Sem.run_bind, run_under ht, Result.andThen_ok, run_size hn, if_neg hnle, if_pos h0, Sem.run_pure, hrange, h1, run_newRow]
    rfl
  · simp only [if_neg h0] at hrange
    simp only [Instr.buildSlice, Sem.run_bind, run_under ht, Result.andThen_ok, run_size hn, if_neg hnle, if_neg h0, hzr, hzc, Sem.run_pure, hrange, h1, run_newRow]
    rfl
theorem store_run (hR : Rel P σ A w) {t : TypeId} {p p' v v' : Value} {A' : AW} (h : storeA P t A p v = some A') (hp : VR σ p p') (hv : VR σ v v') : Does P σ A w ((Instr.storeAt t p' v').run P w) A' := by
  simp only [storeA, ob_some, bt_some, ptrV_some, plainAt_some, rowAt_some, lenB_iff, Option.some.injEq] at h
  obtain ⟨a, rfl, ha, n, hn, hl, h1, c, e, m, hg, hm, c', hc', rfl⟩ := h
  rw [ha] at hp
  obtain ⟨b, d, hs, rfl⟩ := hp.ptr_inv
  obtain ⟨cc, fz, hw, hr⟩ := hR.row hs hg hm
  have hcl := hv.cells (notU_of_cells h1)
  obtain ⟨hle, hr2⟩ := hr.over hcl hc'
  obtain ⟨w', hst, q1, q2, q3, q4, q5, q6⟩ := cellsStored (P := P) (o := a.off) v'.cells.toList 0 cc w hw (by simpa using hle) (hcl.oneCells h1) (hr.free hm)
  simp only [Nat.add_zero] at q1
  obtain ⟨r1, r2⟩ := hR.upd (o2 := .row c' e m) hs hg hm q1 ⟨.inr rfl, hr2⟩ q2 q3 q4 q5 q6
  refine ⟨w', ?_, r1, r2⟩
  have hsz : v'.cells.size = n := by have := hcl.length; simpa [hl] using this
  simp only [Instr.storeAt, Instr.sureAddr, storeVar, Sem.run_bind, Sem.run_pure, Result.andThen_ok, run_size hn, hsz, ne_eq, not_true_eq_false, if_false]
  exact hst
theorem ER.get {es es' : List MapEntry} (h : ER σ es es') {k : Nat} {e : MapEntry} (hk : es[k]? = some e) : ∃ e', es'[k]? = some e' ∧ e'.key = e.key ∧ flat e.key = true ∧ VR σ e.val e'.val ∧ e'.born = e.born := by
  induction es generalizing es' k with
  | nil => simp at hk
  | cons x es ih =>
    cases h with
    | cons a b c d r =>
      cases k with
      | zero => simp at hk; subst hk; exact ⟨_, rfl, a, b, c, d⟩
      | succ k => simp at hk; simpa using ih r hk
theorem ER.set {es es' : List MapEntry} (h : ER σ es es') (k : Nat) {e e' : MapEntry} (h1 : e'.key = e.key) (h2 : flat e.key = true) (h3 : VR σ e.val e'.val) (h4 : e'.born = e.born) : ER σ (es.set k e) (es'.set k e') := by
  induction es generalizing es' k with
  | nil => cases h; exact .nil
  | cons x es ih =>
    cases h with
    | cons a b c d r =>
      cases k with
      | zero => exact .cons h1 h2 h3 h4 r
      | succ k => exact .cons a b c d (ih r k)
theorem ER.snoc {es es' : List MapEntry} (h : ER σ es es') {e e' : MapEntry} (h1 : e'.key = e.key) (h2 : flat e.key = true) (h3 : VR σ e.val e'.val) (h4 : e'.born = e.born) : ER σ (es ++ [e]) (es' ++ [e']) := by
  induction es generalizing es' with
  | nil => cases h; exact .cons h1 h2 h3 h4 .nil
  | cons x es ih => cases h with | cons a b c d r => exact .cons a b c d (ih r)
theorem ER.del {es es' : List MapEntry} (h : ER σ es es') (k : Nat) : ER σ (es.eraseIdx k) (es'.eraseIdx k) := by
  induction es generalizing es' k with
  | nil => cases h; exact .nil
  | cons x es ih =>
    cases h with
    | cons a b c d r =>
      cases k with
      | zero => exact r
      | succ k => exact .cons a b c d (ih r k)
theorem found_same {kd : TypeDesc} {k : Value} : ∀ {es : List MapEntry} {n i : Nat} {v : Value}, Instr.findNow kd k es n = some (some (i, v)) → ∃ j e, i = n + j ∧ es[j]? = some e ∧ Instr.sameNow kd k e.key = some true := by
  intro es
  induction es with
  | nil => intro n i v h; simp [Instr.findNow] at h
  | cons e es ih =>
    intro n i v h
    simp only [Instr.findNow] at h
    cases hs : Instr.sameNow kd k e.key with
    | none => rw [hs] at h; cases h
    | some b =>
      rw [hs] at h
      cases b with
      | true => cases h; exact ⟨0, e, rfl, rfl, hs⟩
      | false => obtain ⟨j, e', h1, h2, h3⟩ := ih h; exact ⟨j + 1, e', by omega, by simpa using h2, h3⟩
theorem bytes_beq {a b : ByteArray} (h : (a == b) = true) : a = b := by
  obtain ⟨a⟩ := a; obtain ⟨b⟩ := b
  have : (a == b) = true := h
  rw [eq_of_beq this]
theorem bytes_self (a : ByteArray) : (a == a) = true := by
  obtain ⟨a⟩ := a
  show (a == a) = true
  simp
theorem sameNow_eq {kd : TypeDesc} {k k2 : Value} (h : Instr.sameNow kd k k2 = some true) : k2 = k := by
  unfold Instr.sameNow at h
  split at h
  · split at h
    · rename_i e; subst e; simp at h; rw [h]
    · cases h
  · rw [bytes_beq (Option.some.inj h)]
  · simp at h; rw [h]
  · cases h
theorem sameNow_bits {kd : TypeDesc} {k k2 : Value} (h : Instr.sameNow kd k k2 = some true) : Instr.sameBits 10000 k k = true := by
  unfold Instr.sameNow at h
  split at h
  · simp [Instr.sameBits]
  · simp only [Instr.sameBits]; exact bytes_self _
  · simp [Instr.sameBits]
  · cases h
theorem run_setMap {r k k2 : Nat} {es es2 : Array MapEntry} (h : w.heap[r]? = some (.map es k)) : (setObj r (.map es2 k2)).run P w = .ok () { w with heap := w.heap.setIfInBounds r (.map es2 k2) } := by simp [setObj, Sem.run, h]
theorem Rel.updMap (hR : Rel P σ A w) {i b d k k2 : Nat} {es es2 : List MapEntry} {es' es2' : Array MapEntry} (hs : σ i = some (b, d)) (hg : A.heap.get i = some (.map es k)) (hw : w.heap[b]? = some (.map es' k)) (he : ER σ es2 es2'.toList) :
    Rel P σ (A.put i (.map es2 k2)) { w with heap := w.heap.setIfInBounds b (.map es2' k2) } ∧ Step σ A w σ (A.put i (.map es2 k2)) { w with heap := w.heap.setIfInBounds b (.map es2' k2) } := by
  have hlt := (Array.getElem?_eq_some_iff.1 hw).1
  refine hR.upd (x := .map es2' k2) hs hg rfl ?_ ⟨rfl, he⟩ ?_ ?_ rfl rfl rfl
  · simp [Array.getElem?_setIfInBounds, hlt]
  · intro j hj; simp only [Array.getElem?_setIfInBounds, if_neg (Ne.symm hj)]
  · simp
theorem mapUpdate_run (hR : Rel P σ A w) {t : TypeId} {m m' k k' v v' : Value} {A' : AW} (h : mapUpdateA P t A m k v = some A') (hm : VR σ m m') (hk : VR σ k k') (hv : VR σ v v') : Does P σ A w ((Instr.mapUpdate t m' k' v').run P w) A' := by
  simp only [mapUpdateA, ob_some, bt_some, mapT_some, mapV_some, mapAt_some, Option.some.injEq] at h
  obtain ⟨⟨kt, et⟩, ht, hf, kd, hkd, hkk, r, rfl, i, rfl, es, clock, hg, x, hx, y, hy, rfl⟩ := h
  obtain rfl := hk.of_flat hf
  simp only at ht hkd
  obtain ⟨b, d, hs, rfl⟩ := hm.map_inv
  obtain ⟨es', hw, he⟩ := hR.map hs hg
  obtain ⟨r', hr', hfr⟩ := findNow_run he hx
  have hfk := findKey_run (P := P) hkd hr' w
  cases hfr with
  | none =>
    have hy : some (es ++ [{ key := k', val := v, born := clock }], Nat.succ clock) = some y := hy
    cases hy
    obtain ⟨q1, q2⟩ := hR.updMap (k2 := clock + 1) (es2' := es'.push { key := k', val := v', born := clock }) hs hg hw (by simpa using he.snoc (e := { key := k', val := v, born := clock }) (e' := { key := k', val := v', born := clock }) rfl hf hv rfl)
    refine ⟨_, ?_, q1, q2⟩
    simp only [Instr.mapUpdate, Sem.run_bind, run_under ht, Result.andThen_ok, run_getMap hw, checkKey_run hkd hkk, hfk, run_setMap hw]
  | some hv0 =>
    rename_i j u u'
    have hy : (ob (lget es j) fun e => ob (lset { key := k', val := v, born := e.born } es j) fun es' => some (es', clock)) = some y := hy
    simp only [ob_some, lget_eq, Option.some.injEq] at hy
    obtain ⟨e, hej, es2, hes2, rfl⟩ := hy
    obtain ⟨rfl, hlt⟩ := lset_some _ _ _ _ hes2
    obtain ⟨e', he', hk1, hk2, hv1, hb1⟩ := he.get hej
    obtain ⟨j', e2, hj0, hj1, hj2⟩ := found_same hr'
    obtain rfl : j = j' := by omega
    rw [he'] at hj1; cases hj1
    have hkey : e'.key = k' := sameNow_eq hj2
    have hbits := sameNow_bits hj2
    have hmod : (es'.modify j fun e => { e with key := k', val := v' }).toList = es'.toList.set j { key := k', val := v', born := e'.born } := by
      rw [Array.toList_modify, ChangeMaps.modify_eq_set _ _ _ _ he']
    obtain ⟨q1, q2⟩ := hR.updMap (k2 := clock) (es2' := es'.modify j fun e => { e with key := k', val := v' }) hs hg hw (by rw [hmod]; exact he.set j (e := { key := k', val := v, born := e.born }) (e' := { key := k', val := v', born := e'.born }) rfl hf hv hb1)
    refine ⟨_, ?_, q1, q2⟩
    have hgk : ((es'[j]?).map (·.key)).getD k' = k' := by rw [← Array.getElem?_toList, he']; exact hkey
    have hst : (Instr.keyThatStays (((es'[j]?).map (·.key)).getD k') k').run P w = .ok k' w := by rw [hgk]; simp only [Instr.keyThatStays, hbits, if_true, Sem.run_pure]
    simp only [Instr.mapUpdate, Sem.run_bind, run_under ht, Result.andThen_ok, run_getMap hw, checkKey_run hkd hkk, hfk, hst, run_setMap hw]
theorem delete_run (hR : Rel P σ A w) {t : TypeId} {m m' k k' : Value} {A' : AW} {ts : List TypeId} {ty : TypeId} (h : deleteA P t A m k = some A') (hm : VR σ m m') (hk : VR σ k k') : Gives P σ A w ((Builtin.delete_ ⟨t :: ts⟩ ty #[m', k']).run P w) (.tuple #[]) A' := by
  simp only [deleteA, ob_some, bt_some, mapT_some, mapV_some, mapAt_some] at h
  obtain ⟨⟨kt, et⟩, ht, hf, kd, hkd, hkk, r, rfl, i, rfl, es, clock, hg, x, hx, h⟩ := h
  obtain rfl := hk.of_flat hf
  simp only at ht hkd
  obtain ⟨b, d, hs, rfl⟩ := hm.map_inv
  obtain ⟨es', hw, he⟩ := hR.map hs hg
  obtain ⟨r', hr', hfr⟩ := findNow_run he hx
  have hfk := findKey_run (P := P) hkd hr' w
  have h0 : (⟨t :: ts⟩ : Array TypeId)[0]? = some t := rfl
  have ha0 : (#[Value.map (some b), k'] : Array Value)[0]? = some (.map (some b)) := rfl
  have ha1 : (#[Value.map (some b), k'] : Array Value)[1]? = some k' := rfl
  cases hfr with
  | none =>
    have h : some A = some A' := h
    cases h
    refine ⟨.tuple #[], σ, w, ?_, .undef, hR, .refl hR.lim⟩
    have hlt := (Array.getElem?_eq_some_iff.1 hw).1
    have hsame : (setObj b (.map es' clock)).run P w = .ok () w := by
      rw [run_setMap hw]
      congr
      have hgb := (Array.getElem?_eq_some_iff.1 hw).2
      rw [← hgb]
      apply Array.ext (by simp)
      intro q h1 h2
      rw [Array.getElem_setIfInBounds]
      split
      · rename_i e; subst e; rfl
      · rfl
    simp only [Builtin.delete_, h0, ha0, ha1, Sem.run_bind, run_under ht, Result.andThen_ok, run_getMap hw, checkKey_run hkd hkk, hfk, hsame, Sem.run_pure]
  | some hv0 =>
    rename_i j u u'
    have h : some (A.put i (.map (ldel es j) clock)) = some A' := h
    cases h
    obtain ⟨q1, q2⟩ := hR.updMap (k2 := clock) (es2 := ldel es j) (es2' := es'.eraseIdxIfInBounds j) hs hg hw (by rw [ldel_eq, Array.toList_eraseIdxIfInBounds]; exact he.del j)
    refine ⟨.tuple #[], σ, _, ?_, .undef, q1, q2⟩
    simp only [Builtin.delete_, h0, ha0, ha1, Sem.run_bind, run_under ht, Result.andThen_ok, run_getMap hw, checkKey_run hkd hkk, hfk, run_setMap hw, Sem.run_pure]
theorem run_asInt (k : IntKind) (n : Int) (w : World) : (asInt (.int k n)).run P w = .ok n w := rfl
theorem makeMap_run (hR : Rel P σ A w) {t : TypeId} {r : Option Value} (hr : ∀ v, r = some v → (∃ k n, v = .int k (.ofNat n)) ∧ ∃ q : TypeId × TypeId, P.underlying t = some (.map q.1 q.2)) : Gives P σ A w ((Instr.makeMap t r).run P w) (.map (some A.next)) (A.add (.map [] 0)) := by
  obtain ⟨h1, h2⟩ := hR.new (w' := { w with heap := w.heap.push (.map #[] 0) }) (o := .map [] 0) (x := .map #[] 0) (d := 0) rfl ⟨rfl, .nil⟩ rfl rfl rfl
  refine ⟨_, _, _, ?_, .map (ext_self _ _), h1, h2⟩
  cases r with
  | none => rfl
  | some v =>
    obtain ⟨⟨k, n, rfl⟩, q, hq⟩ := hr v rfl
    simp only [Instr.makeMap, Sem.run_bind, run_under hq, Result.andThen_ok, run_asInt, Sem.run_pure, run_newObj]
theorem i64V_some {v : Value} {n : Nat} : i64V v = some n ↔ v = .int .i64 (.ofNat n) := by
  cases v <;> simp [i64V]
  rename_i k i; cases k <;> cases i <;> simp
  exact Int.ofNat_inj.symm
theorem few_le {n by_ : Nat} (h : few n by_ = true) : n ≤ 1073741824 ∧ n * by_ ≤ 1073741824 := by
  have h : n * (by_ + 1) ≤ 1073741824 := bleIff.1 h
  rw [Nat.mul_add] at h
  omega
theorem wrap_small {n : Nat} (h : n ≤ 1073741824) : IntKind.i64.wrap (Int.ofNat n) = Int.ofNat n := by
  simp [IntKind.wrap, IntKind.bits, IntKind.signed]; omega
theorem makeSlice_core {t e : TypeId} {z : List Value} {ln cn : Nat} {i : TypeInfo} (ht : P.underlying t = some (.slice e)) (hz : zeroA P e = some z) (hi : P.info? e = some i) (hzl : z.length = i.size) (hle : ln ≤ cn) (hfew : few cn i.bytes = true) (w : World) :
    (Instr.makeSlice t (.int .i64 (.ofNat ln)) (.int .i64 (.ofNat cn))).run P w = .ok (.slice (some ⟨w.heap.size, 0, none⟩) ln cn) { w with heap := w.heap.push (.cells ⟨lrep cn z⟩ e) } := by
  obtain ⟨f1, f2⟩ := few_le hfew
  obtain ⟨zv, hzr, hzc, _⟩ := run_zero (σ := fun _ => none) hz w
  have hw1 := wrap_small f1
  have hw2 : IntKind.i64.wrap (Int.ofNat ln) = Int.ofNat ln := wrap_small (Nat.le_trans hle f1)
  have hcells : (if cn * i.size = 0 then (pure #[] : Sem (Array Value)) else do pure (← zeroValue e).cells).run P w = .ok (if cn * i.size = 0 then #[] else ⟨z⟩) w := by
    split
    · rfl
    · simp only [Sem.run_bind, hzr, Result.andThen_ok, Sem.run_pure, hzc]
  have hrange : (Array.range (cn * i.size)).map (fun j => (if cn * i.size = 0 then #[] else (⟨z⟩ : Array Value))[j % (if cn * i.size = 0 then #[] else (⟨z⟩ : Array Value)).size]!) = ⟨lrep cn z⟩ := by
    by_cases h0 : cn * i.size = 0
    · rw [h0, lrep_nil_of (by rw [hzl]; exact h0)]; apply Array.toList_inj.1; simp
    · rw [if_neg h0, ← hzl]; exact range_lrep z cn
  have hb : ((decide (Int.ofNat cn < 0) || decide ((i.bytes : Int) * Int.ofNat cn > 2 ^ 48)) || decide (Int.ofNat ln < 0) || decide (Int.ofNat ln > Int.ofNat cn)) = false := by
    have : (i.bytes : Int) * Int.ofNat cn = ((cn * i.bytes : Nat) : Int) := by rw [Nat.mul_comm]; simp
    rw [this]
    simp
    omega
  have hsz : (sizeOf e).run P w = .ok i.size w := run_size (sizeA_some.2 ⟨i, hi, rfl⟩) w
  have htn : (Int.ofNat cn).toNat = cn := rfl
  have htl : (Int.ofNat ln).toNat = ln := rfl
  by_cases h0 : cn * i.size = 0
  · simp only [if_pos h0] at hrange
    simp only [Instr.makeSlice, Sem.run_bind, run_under ht, Result.andThen_ok, run_asInt, Sem.run_pure, run_info hi, hw1, hw2, hb, Bool.false_eq_true, if_false, run_askRoom, htn, htl, hsz, if_pos h0, hrange, run_newRow]
  · simp only [if_neg h0] at hrange
    simp only [Instr.makeSlice, Sem.run_bind, run_under ht, Result.andThen_ok, run_asInt, Sem.run_pure, run_info hi, hw1, hw2, hb, Bool.false_eq_true, if_false, run_askRoom, htn, htl, hsz, if_neg h0, hzr, hzc, hrange, run_newRow]
theorem makeSlice_run (hR : Rel P σ A w) {t : TypeId} {l l' c c' v : Value} {A' : AW} (h : makeSliceA P t A l c = some (v, A')) (hl : VR σ l l') (hc : VR σ c c') : Gives P σ A w ((Instr.makeSlice t l' c').run P w) v A' := by
  simp only [makeSliceA, ob_some, bt_some, sliceT_some, lenB_iff, bleIff, i64V_some, newSlice, Option.some.injEq, Prod.mk.injEq] at h
  obtain ⟨e, ht, ln, rfl, cn, rfl, z, hz, i, hi, hzl, hle, hfew, rfl, rfl⟩ := h
  obtain rfl := hl.of_flat rfl
  obtain rfl := hc.of_flat rfl
  obtain ⟨_, _, _, hzz⟩ := run_zero (σ := σ) hz w
  obtain ⟨σ', g1, g2, g3⟩ := hR.newOwn e (hzz.lrep cn)
  exact ⟨_, σ', _, makeSlice_core ht hz hi hzl hle hfew w, .slice g3, g1, g2⟩
end Go.Ev
end
