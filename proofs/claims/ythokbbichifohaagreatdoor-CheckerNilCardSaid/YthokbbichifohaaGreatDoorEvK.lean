/- The evaluator: how the memory changes. -/
import Derived.Test.YthokbbichifohaaGreatDoorEvD
import Derived.Lib.UnsafeStr
section
set_option linter.unusedSectionVars false
namespace Go.Ev
variable {P : Program} {σ σ' : Sg} {A : AW} {w w' : World} [Frozen P]
theorem ER.sub (h : Sub σ σ') : ∀ {l l' : List MapEntry}, ER σ l l' → ER σ' l l'
  | _, _, .nil => .nil
  | _, _, .cons h1 h2 h3 h4 h5 => .cons h1 h2 (h3.sub h) h4 (h5.sub h)
theorem RowR.sub (h : Sub σ σ') {d : Nat} {c : List Value} {e : TypeId} {m : Md} {c' : Array Value} {fz : Nat × Nat} (k : RowR P σ d c e m c' fz) : RowR P σ' d c e m c' fz := by
  obtain ⟨cs, x, h1, h2, h3⟩ := k.cells
  exact ⟨⟨cs, x, h1, h2.sub h, h3⟩, k.exact_, k.cap, k.free⟩
theorem OR.sub (h : Sub σ σ') {d : Nat} {o : AO} {x : Obj} (k : OR P σ d o x) : OR P σ' d o x := by
  unfold OR at k ⊢
  split at k
  · exact ⟨k.1, k.2.sub h⟩
  · exact ⟨k.1, k.2.sub h⟩
  · exact k.elim
theorem heap_put (i : Nat) (o : AO) (j : Nat) : (A.put i o).heap.get j = if j = i then some o else A.heap.get j := get_set o A.heap i j
theorem heap_add (o : AO) (j : Nat) : (A.add o).heap.get j = if j = A.next then some o else A.heap.get j := get_set o A.heap A.next j
theorem Rel.upd (hR : Rel P σ A w) {i b d : Nat} {o o2 : AO} {x : Obj} (hs : σ i = some (b, d)) (hg : A.heap.get i = some o) (ho : mayW o = true)
    (hx : w'.heap[b]? = some x) (hor : OR P σ d o2 x) (hoth : ∀ k, k ≠ b → w'.heap[k]? = w.heap[k]?) (hsz : w'.heap.size = w.heap.size) (h1 : w'.os = w.os) (h2 : w'.tape = w.tape) (h3 : w'.output = w.output) :
    Rel P σ (A.put i o2) w' ∧ Step σ A w σ (A.put i o2) w' := by
  have hl := live_of_mayW ho
  have hin : i < A.next := Nat.lt_of_not_le fun hle => by rw [hR.lim i hle] at hs; cases hs
  refine hR.both ⟨⟨?_, ?_, hR.lim, hR.glob, fun j hj => by rw [heap_put, if_neg (by intro e; subst e; exact Nat.lt_irrefl _ (Nat.lt_of_lt_of_le hin hj))]; exact hR.top j hj⟩, ⟨fun _ _ => rfl, Nat.le_refl _, h1, h2, h3, by omega, ?_, ?_, ?_, ?_⟩⟩
  · intro j b' d' oj hj hgj hlj
    rw [heap_put] at hgj
    split at hgj
    · rename_i e; subst e; cases hgj
      rw [hs] at hj; cases hj
      exact ⟨x, hx, hor⟩
    · rename_i hne
      obtain ⟨y, hy, hor'⟩ := hR.obj j b' d' oj hj hgj hlj
      refine ⟨y, ?_, hor'⟩
      rw [hoth b' (fun e => by subst e; exact hne (hR.inj j i b' d' d oj o hj hs hgj hg hlj hl (by rw [ho, Bool.or_true])))]
      exact hy
  · intro j k b' d1 d2 oj ok hj hk hgj hgk hlj hlk hjk
    rw [heap_put] at hgj hgk
    split at hgj <;> split at hgk
    · simp_all
    · rename_i e _; subst e; exact hR.inj _ _ b' d1 d2 o ok hj hk hg hgk hl hlk (by rw [ho, Bool.true_or])
    · rename_i _ e; subst e; exact hR.inj _ _ b' d1 d2 oj o hj hk hgj hg hlj hl (by rw [ho, Bool.or_true])
    · exact hR.inj _ _ b' d1 d2 oj ok hj hk hgj hgk hlj hlk hjk
  · intro k _ hn
    exact hoth k (fun e => hn (by subst e; exact ⟨i, d, o, hs, hg, ho⟩))
  · rintro k _ ⟨j, d', oj, hj, hgj, hw⟩
    rw [heap_put] at hgj
    split at hgj
    · rename_i e; subst e; rw [hs] at hj; cases hj; exact ⟨j, d, o, hs, hg, ho⟩
    · exact ⟨j, d', oj, hj, hgj, hw⟩
  · intro j b' d' oj hle hj _ _ _
    rw [hR.lim j hle] at hj; cases hj
  · intro j oj _ hgj hlj
    rw [heap_put] at hgj
    split at hgj
    · rename_i e; subst e; exact ⟨o, hg, hl⟩
    · exact ⟨oj, hgj, hlj⟩
def ext (σ : Sg) (i : Nat) (p : Nat × Nat) : Sg := fun j => if j = i then some p else σ j
theorem ext_self (i : Nat) (p : Nat × Nat) : ext σ i p i = some p := if_pos rfl
theorem ext_other {i j : Nat} (p : Nat × Nat) (h : j ≠ i) : ext σ i p j = σ j := if_neg h
theorem sub_ext {i : Nat} (p : Nat × Nat) (h : σ i = none) : Sub σ (ext σ i p) := fun j q hq => by
  by_cases e : j = i
  · subst e; rw [h] at hq; cases hq
  · rw [ext_other p e]; exact hq
theorem Rel.new (hR : Rel P σ A w) {o : AO} {x : Obj} {d : Nat} (hh : w'.heap = w.heap.push x) (hor : OR P σ d o x) (h1 : w'.os = w.os) (h2 : w'.tape = w.tape) (h3 : w'.output = w.output) :
    Rel P (ext σ A.next (w.heap.size, d)) (A.add o) w' ∧ Step σ A w (ext σ A.next (w.heap.size, d)) (A.add o) w' := by
  have hn := hR.lim A.next (Nat.le_refl _)
  have hsub := sub_ext (w.heap.size, d) hn
  have hold : ∀ k, k < w.heap.size → w'.heap[k]? = w.heap[k]? := fun k hk => by rw [hh, Array.getElem?_push_lt hk, Array.getElem?_eq_getElem hk]
  have hnew : w'.heap[w.heap.size]? = some x := by rw [hh]; simp
  have hlt : ∀ {k y}, w.heap[k]? = some y → k < w.heap.size := fun {k y} h => (Array.getElem?_eq_some_iff.1 h).1
  have hnone : ∀ i d' o', σ i = some (w.heap.size, d') → A.heap.get i = some o' → live o' = true → False := fun i d' o' hi hg hl => by
    obtain ⟨y, hy, _⟩ := hR.obj i _ d' o' hi hg hl
    exact Nat.lt_irrefl _ (hlt hy)
  refine hR.both ⟨⟨?_, ?_, ?_, ?_, fun j hj => by have hj : A.next + 1 ≤ j := hj; rw [heap_add, if_neg (by omega)]; exact hR.top j (by omega)⟩, ⟨?_, Nat.le_succ _, h1, h2, h3, by rw [hh]; simp, fun k hk _ => hold k hk, ?_, ?_, ?_⟩⟩
  · intro j b' d' oj hj hgj hlj
    rw [heap_add] at hgj
    by_cases e : j = A.next
    · subst e; rw [if_pos rfl] at hgj; cases hgj
      rw [ext_self] at hj; cases hj
      exact ⟨x, hnew, hor.sub hsub⟩
    · rw [if_neg e] at hgj; rw [ext_other _ e] at hj
      obtain ⟨y, hy, hor'⟩ := hR.obj j b' d' oj hj hgj hlj
      exact ⟨y, by rw [hold _ (hlt hy)]; exact hy, hor'.sub hsub⟩
  · intro j k b' d1 d2 oj ok hj hk hgj hgk hlj hlk hjk
    rw [heap_add] at hgj hgk
    by_cases e : j = A.next <;> by_cases e2 : k = A.next
    · rw [e, e2]
    · subst e; rw [ext_self] at hj; cases hj; rw [ext_other _ e2] at hk; rw [if_neg e2] at hgk; exact (hnone k d2 ok hk hgk hlk).elim
    · subst e2; rw [ext_self] at hk; cases hk; rw [ext_other _ e] at hj; rw [if_neg e] at hgj; exact (hnone j d1 oj hj hgj hlj).elim
    · rw [ext_other _ e] at hj; rw [ext_other _ e2] at hk; rw [if_neg e] at hgj; rw [if_neg e2] at hgk
      exact hR.inj _ _ b' d1 d2 oj ok hj hk hgj hgk hlj hlk hjk
  · intro i hi
    have hi : A.next + 1 ≤ i := hi
    rw [ext_other _ (by omega)]
    exact hR.lim i (by omega)
  · intro g hg
    rw [ext_other _ (fun e => by have := hR.glob g hg; rw [e, hn] at this; cases this)]
    exact hR.glob g hg
  · intro i hi; exact ext_other _ (by omega)
  · rintro k hk ⟨j, d', oj, hj, hgj, hw⟩
    rw [heap_add] at hgj
    by_cases e : j = A.next
    · subst e; rw [ext_self] at hj; cases hj; exact (Nat.lt_irrefl _ hk).elim
    · rw [if_neg e] at hgj; rw [ext_other _ e] at hj; exact ⟨j, d', oj, hj, hgj, hw⟩
  · intro i b' d' oi hle hi hgi hli hb
    by_cases e : i = A.next
    · subst e; rw [ext_self] at hi; cases hi; exact (Nat.lt_irrefl _ hb).elim
    · rw [ext_other _ e, hR.lim i hle] at hi; cases hi
  · intro i oi hi hgi hli
    rw [heap_add, if_neg (by omega)] at hgi
    exact ⟨oi, hgi, hli⟩
theorem Rel.kill (hR : Rel P σ A w) {i : Nat} (hin : i < A.next) : Rel P σ (A.put i .dead) w ∧ Step σ A w σ (A.put i .dead) w := by
  refine hR.both ⟨⟨?_, ?_, hR.lim, hR.glob, fun j hj => by rw [heap_put, if_neg (by intro e; subst e; exact Nat.lt_irrefl _ (Nat.lt_of_lt_of_le hin hj))]; exact hR.top j hj⟩, ⟨fun _ _ => rfl, Nat.le_refl _, rfl, rfl, rfl, Nat.le_refl _, fun _ _ _ => rfl, ?_, ?_, ?_⟩⟩
  · intro j b' d' oj hj hgj hlj
    rw [heap_put] at hgj
    split at hgj
    · cases hgj; cases hlj
    · exact hR.obj j b' d' oj hj hgj hlj
  · intro j k b' d1 d2 oj ok hj hk hgj hgk hlj hlk hjk
    rw [heap_put] at hgj hgk
    split at hgj
    · cases hgj; cases hlj
    · split at hgk
      · cases hgk; cases hlk
      · exact hR.inj _ _ b' d1 d2 oj ok hj hk hgj hgk hlj hlk hjk
  · rintro k _ ⟨j, d', oj, hj, hgj, hw⟩
    rw [heap_put] at hgj
    split at hgj
    · cases hgj; cases hw
    · exact ⟨j, d', oj, hj, hgj, hw⟩
  · intro j b' d' oj hle hj _ _ _
    rw [hR.lim j hle] at hj; cases hj
  · intro j oj _ hgj hlj
    rw [heap_put] at hgj
    split at hgj
    · cases hgj; cases hlj
    · exact ⟨oj, hgj, hlj⟩
theorem Rel.move (hR : Rel P σ A w) {i b d d2 : Nat} {o o2 : AO} {x : Obj} (hs : σ i = some (b, d)) (hg : A.heap.get i = some o) (ho : mayW o = true)
    (hx : w'.heap[b]? = some x) (hor : OR P σ d2 o2 x) (hoth : ∀ k, k ≠ b → w'.heap[k]? = w.heap[k]?) (hsz : w'.heap.size = w.heap.size) (h1 : w'.os = w.os) (h2 : w'.tape = w.tape) (h3 : w'.output = w.output) :
    Rel P (ext σ A.next (b, d2)) ((A.put i .dead).add o2) w' ∧ Step σ A w (ext σ A.next (b, d2)) ((A.put i .dead).add o2) w' := by
  have hn := hR.lim A.next (Nat.le_refl _)
  have hsub := sub_ext (b, d2) hn
  have hl := live_of_mayW ho
  have hga : ∀ j, ((A.put i .dead).add o2).heap.get j = if j = A.next then some o2 else if j = i then some .dead else A.heap.get j := fun j => by rw [heap_add, heap_put]; rfl
  have hin : i ≠ A.next := fun e => by rw [e, hn] at hs; cases hs
  have hoth' : ∀ j dj oj, j ≠ i → σ j = some (b, dj) → A.heap.get j = some oj → live oj = true → False := fun j dj oj hne hj hgj hlj => hne (hR.inj j i b dj d oj o hj hs hgj hg hlj hl (by rw [ho, Bool.or_true]))
  have hlt : i < A.next := Nat.lt_of_not_le fun hle => by rw [hR.lim i hle] at hs; cases hs
  refine hR.both ⟨⟨?_, ?_, ?_, ?_, fun j hj => by have hj : A.next + 1 ≤ j := hj; rw [hga, if_neg (by omega), if_neg (by omega)]; exact hR.top j (by omega)⟩, ⟨?_, Nat.le_succ _, h1, h2, h3, by omega, ?_, ?_, ?_, ?_⟩⟩
  · intro j b' d' oj hj hgj hlj
    rw [hga] at hgj
    by_cases e : j = A.next
    · subst e; rw [if_pos rfl] at hgj; cases hgj
      rw [ext_self] at hj; cases hj
      exact ⟨x, hx, hor.sub hsub⟩
    · rw [if_neg e] at hgj; rw [ext_other _ e] at hj
      split at hgj
      · cases hgj; cases hlj
      · rename_i hne
        obtain ⟨y, hy, hor'⟩ := hR.obj j b' d' oj hj hgj hlj
        exact ⟨y, by rw [hoth _ (fun e => by subst e; exact hoth' j d' oj hne hj hgj hlj)]; exact hy, hor'.sub hsub⟩
  · intro j k b' d1 d2' oj ok hj hk hgj hgk hlj hlk hjk
    rw [hga] at hgj hgk
    by_cases e : j = A.next <;> by_cases e2 : k = A.next
    · rw [e, e2]
    · subst e; rw [ext_self] at hj; cases hj; rw [ext_other _ e2] at hk; rw [if_neg e2] at hgk
      split at hgk
      · cases hgk; cases hlk
      · rename_i hne; exact (hoth' k d2' ok hne hk hgk hlk).elim
    · subst e2; rw [ext_self] at hk; cases hk; rw [ext_other _ e] at hj; rw [if_neg e] at hgj
      split at hgj
      · cases hgj; cases hlj
      · rename_i hne; exact (hoth' j d1 oj hne hj hgj hlj).elim
    · rw [ext_other _ e] at hj; rw [ext_other _ e2] at hk; rw [if_neg e] at hgj; rw [if_neg e2] at hgk
      split at hgj
      · cases hgj; cases hlj
      · split at hgk
        · cases hgk; cases hlk
        · exact hR.inj _ _ b' d1 d2' oj ok hj hk hgj hgk hlj hlk hjk
  · intro k hk
    have hk : A.next + 1 ≤ k := hk
    rw [ext_other _ (by omega)]
    exact hR.lim k (by omega)
  · intro g hgg
    rw [ext_other _ (fun e => by have := hR.glob g hgg; rw [e, hn] at this; cases this)]
    exact hR.glob g hgg
  · intro k hk; exact ext_other _ (by omega)
  · intro k _ hnw
    exact hoth k (fun e => hnw (by subst e; exact ⟨i, d, o, hs, hg, ho⟩))
  · rintro k hk ⟨j, d', oj, hj, hgj, hw⟩
    rw [hga] at hgj
    by_cases e : j = A.next
    · subst e; rw [ext_self] at hj; cases hj; exact ⟨i, d, o, hs, hg, ho⟩
    · rw [if_neg e] at hgj; rw [ext_other _ e] at hj
      split at hgj
      · cases hgj; cases hw
      · exact ⟨j, d', oj, hj, hgj, hw⟩
  · intro j b' d' oj hle hj hgj hlj hb
    by_cases e : j = A.next
    · subst e; rw [ext_self] at hj; cases hj; exact ⟨i, d, o, hs, hg, ho⟩
    · rw [ext_other _ e, hR.lim j hle] at hj; cases hj
  · intro j oj hj hgj hlj
    rw [hga, if_neg (by omega)] at hgj
    split at hgj
    · cases hgj; cases hlj
    · exact ⟨oj, hgj, hlj⟩
theorem Rel.lt (hR : Rel P σ A w) {i : Nat} {p : Nat × Nat} (h : σ i = some p) : i < A.next := Nat.lt_of_not_le fun hle => by rw [hR.lim i hle] at h; cases h
theorem cellsStored {b o : Nat} {e : TypeId} {fz : Nat × Nat} : ∀ (vs : List Value) (k : Nat) (c : Array Value) (w : World), w.heap[b]? = some (.cells c e fz) → o + k + vs.length ≤ c.size → (∀ v ∈ vs, v.oneCell = true) → unfrozen c.size fz →
    ∃ w', (storeCells ⟨b, o, none⟩ vs k).run P w = .ok () w' ∧ w'.heap[b]? = some (.cells ⟨c.toList.take (o + k) ++ (vs ++ c.toList.drop (o + k + vs.length))⟩ e fz) ∧ (∀ j, j ≠ b → w'.heap[j]? = w.heap[j]?) ∧
      w'.heap.size = w.heap.size ∧ w'.os = w.os ∧ w'.tape = w.tape ∧ w'.output = w.output := by
  intro vs
  induction vs with
  | nil => intro k c w hw _ _ _; exact ⟨w, rfl, by simpa using hw, fun _ _ => rfl, rfl, rfl, rfl, rfl⟩
  | cons v vs ih =>
    intro k c w hw hle h1 hfz
    have hlen : o + k < c.size := by simp at hle; omega
    have hcell : w.cell? ⟨b, o + k, none⟩ = some c[o + k] := cell_of hw (by simp [hlen])
    have hfr : w.frozen? ⟨b, o + k, none⟩ = false := by
      have := hfz (o + k) hlen
      simp only [World.frozen?, hw]
      simpa using this
    have hone : v.oneCell = true := h1 v (by simp)
    have hst : (w.setCell ⟨b, o + k, none⟩ v).heap[b]? = some (.cells (c.setIfInBounds (o + k) v) e fz) := by simp [World.setCell, Array.getElem?_modify, hw]
    have hoth : ∀ j, j ≠ b → (w.setCell ⟨b, o + k, none⟩ v).heap[j]? = w.heap[j]? := fun j hj => heap_setCell_other w _ j v hj
    obtain ⟨w', hr, h2, h3, h4, h5, h6, h7⟩ := ih (k + 1) (c.setIfInBounds (o + k) v) (w.setCell ⟨b, o + k, none⟩ v) hst (by simp at hle ⊢; omega) (fun x hx => h1 x (by simp [hx])) (by simpa using hfz)
    refine ⟨w', ?_, ?_, fun j hj => (h3 j hj).trans (hoth j hj), by rw [h4]; simp, by rw [h5]; rfl, by rw [h6]; rfl, by rw [h7]; rfl⟩
    · have hgo : (store ((⟨b, o, none⟩ : Addr).add k) v).run P w = .ok () (w.setCell ⟨b, o + k, none⟩ v) := by
        rw [add_plain]
        unfold store
        cases v <;> first | (cases hone; done) | (simp only [Sem.run, hcell, hfr]; rfl)
      simp only [storeCells, Sem.run_bind, hgo, Result.andThen_ok]
      exact hr
    · rw [h2]
      simp only [Array.toList_setIfInBounds]
      have hlt : o + k < c.toList.length := by simpa using hlen
      have ht : (c.toList.set (o + k) v).take (o + k + 1) = c.toList.take (o + k) ++ [v] := by
        rw [List.take_add_one, List.take_set_of_le (Nat.le_refl _), List.getElem?_set_self hlt]
        rfl
      rw [show o + (k + 1) = o + k + 1 by omega, ht, List.drop_set_of_lt (by omega)]
      simp only [List.length_cons, List.append_assoc, List.cons_append, List.nil_append]
      rw [show o + k + 1 + vs.length = o + k + (vs.length + 1) by omega]
theorem RowR.over {d o : Nat} {c xs c2 xs' : List Value} {e : TypeId} {m : Md} {c' : Array Value} {fz : Nat × Nat} (h : RowR P σ d c e m c' fz) (hx : VRL σ xs xs') (ho : lover xs o c = some c2) :
    o + xs'.length ≤ c'.size ∧ RowR P σ d c2 e m ⟨c'.toList.take o ++ (xs' ++ c'.toList.drop (o + xs'.length))⟩ fz := by
  obtain ⟨rfl, hle⟩ := lover_some _ _ _ _ ho
  obtain ⟨cs, x, ec, hc, hr⟩ := h.cells
  have hl := hc.length
  have hxl := hx.length
  have hsz : c'.size = cs.length + x.length := by have := congrArg List.length ec; simpa using this
  have hle' : o + xs'.length ≤ c'.size := by omega
  refine ⟨hle', ⟨⟨cs.take o ++ (xs' ++ cs.drop (o + xs'.length)), x, ?_, ?_, hr⟩, h.exact_, ?_, ?_⟩⟩
  · show c'.toList.take o ++ (xs' ++ c'.toList.drop (o + xs'.length)) = _
    rw [ec, List.take_append_of_le_length (by omega), List.drop_append_of_le_length (by omega)]
    simp [List.append_assoc]
  · rw [hxl]; exact (hc.take o).append (hx.append (hc.drop _))
  · intro rc hm
    intro i hi
    rw [← h.cap rc hm i hi]
    simp [List.length_append]
    omega
  · intro hm
    have := h.free hm
    have e2 : (⟨c'.toList.take o ++ (xs' ++ c'.toList.drop (o + xs'.length))⟩ : Array Value).size = c'.size := by simp; omega
    rw [e2]; exact this
end Go.Ev
end

/- The evaluator: operations that make or write memory. -/
section
set_option linter.unusedSectionVars false
namespace Go.Ev
variable {P : Program} {σ σ' : Sg} {A : AW} {w w' : World} [Frozen P]
theorem unfrozen_zero (n : Nat) : unfrozen n (0, 0) := fun o _ h => absurd h.2 (Nat.not_lt_zero _)
theorem rowR_own {c c' : List Value} {e : TypeId} (h : VRL σ c c') : RowR P σ 0 c e .own ⟨c'⟩ (0, 0) :=
  ⟨⟨c', [], by simp, h, fun _ => rfl⟩, fun _ => rfl, fun _ h => (by cases h), fun _ => unfrozen_zero _⟩
theorem rowR_grown {c cs x : List Value} {e : TypeId} {rc d : Nat} {i : TypeInfo} {fz : Nat × Nat} (h : VRL σ c cs) (hi : P.info? e = some i) (hs : (cs ++ x).length = (rc + d) * i.size) (hf : unfrozen (cs ++ x).length fz) :
    RowR P σ d c e (.grown rc) ⟨cs ++ x⟩ fz :=
  ⟨⟨cs, x, rfl, h, fun h => (by cases h)⟩, fun h => (by cases h), fun r hr j hj => (by cases hr; rw [hi] at hj; cases hj; exact hs), fun _ => hf⟩
theorem run_newObj (x : Obj) (w : World) : (newObj x).run P w = .ok w.heap.size { w with heap := w.heap.push x } := rfl
theorem run_newRow (e : TypeId) (c : Array Value) (w : World) : (newRow e c).run P w = .ok ⟨w.heap.size, 0, none⟩ { w with heap := w.heap.push (.cells c e) } := rfl
theorem Rel.newOwn (hR : Rel P σ A w) {c c' : List Value} (e : TypeId) (h : VRL σ c c') : ∃ σ', Rel P σ' (A.add (.row c e .own)) { w with heap := w.heap.push (.cells ⟨c'⟩ e) } ∧
    Step σ A w σ' (A.add (.row c e .own)) { w with heap := w.heap.push (.cells ⟨c'⟩ e) } ∧ σ' A.next = some (w.heap.size, 0) := by
  have := hR.new (w' := { w with heap := w.heap.push (.cells ⟨c'⟩ e) }) (o := .row c e .own) (x := .cells ⟨c'⟩ e) (d := 0) rfl ⟨.inr rfl, rowR_own h⟩ rfl rfl rfl
  exact ⟨_, this.1, this.2, ext_self _ _⟩
def Fine (P : Program) [Frozen P] (σ : Sg) (A : AW) (w : World) (r : Result Next) : Fx → Prop
  | .val v A' => ∃ v' σ' w', (r = .ok (.value v') w' ∨ (r = .ok .skip w' ∧ v' = undef)) ∧ VR σ' v v' ∧ Rel P σ' A' w' ∧ Step σ A w σ' A' w'
  | .enter f args A' => A' = A ∧ ∃ args', VRL σ args args' ∧ r = (callFunc f ⟨args'⟩).run P w
  | .defr d A' => A' = A ∧ ∃ fn cap cap' args args', d = ⟨.fn fn ⟨cap⟩, ⟨args⟩⟩ ∧ VRL σ cap cap' ∧ VRL σ args args' ∧ r = .ok (.defer ⟨.fn fn ⟨cap'⟩, ⟨args'⟩⟩) w
def Gives (P : Program) [Frozen P] (σ : Sg) (A : AW) (w : World) (r : Result Value) (v : Value) (A' : AW) : Prop := ∃ v' σ' w', r = .ok v' w' ∧ VR σ' v v' ∧ Rel P σ' A' w' ∧ Step σ A w σ' A' w'
def Does (P : Program) [Frozen P] (σ : Sg) (A : AW) (w : World) (r : Result Unit) (A' : AW) : Prop := ∃ w', r = .ok () w' ∧ Rel P σ A' w' ∧ Step σ A w σ A' w'
theorem Gives.fine {s : Sem Value} {v : Value} {A' : AW} (h : Gives P σ A w (s.run P w) v A') : Fine P σ A w ((do pure (.value (← s)) : Sem Next).run P w) (.val v A') := by
  obtain ⟨v', σ', w', h1, h2, h3, h4⟩ := h
  exact ⟨v', σ', w', .inl (by simp only [Sem.run_bind, h1, Result.andThen_ok, Sem.run_pure]), h2, h3, h4⟩
theorem Does.fine {s : Sem Unit} {A' : AW} (h : Does P σ A w (s.run P w) A') : Fine P σ A w ((do s; pure .skip : Sem Next).run P w) (.val (.tuple #[]) A') := by
  obtain ⟨w', h1, h2, h3⟩ := h
  exact ⟨undef, σ, w', .inr ⟨by simp only [Sem.run_bind, h1, Result.andThen_ok, Sem.run_pure], rfl⟩, .undef, h2, h3⟩
theorem fxv_some {x : Option (Value × AW)} {f : Fx} : fxv x = some f ↔ ∃ v A', x = some (v, A') ∧ f = .val v A' := by
  simp only [fxv, ob_some, Option.some.injEq]
  constructor
  · rintro ⟨⟨v, A'⟩, h, rfl⟩; exact ⟨v, A', h, rfl⟩
  · rintro ⟨v, A', h, rfl⟩; exact ⟨(v, A'), h, rfl⟩
theorem fxu_some {x : Option AW} {f : Fx} : fxu x = some f ↔ ∃ A', x = some A' ∧ f = .val (.tuple #[]) A' := by
  simp only [fxu, ob_some, Option.some.injEq]
  constructor
  · rintro ⟨A', h, rfl⟩; exact ⟨A', h, rfl⟩
  · rintro ⟨A', h, rfl⟩; exact ⟨A', h, rfl⟩
theorem alloc_run (hR : Rel P σ A w) {e : TypeId} {z : List Value} (hz : zeroA P e = some z) : Gives P σ A w ((Instr.alloc e true (.tuple #[])).run P w) (.pointer (some ⟨A.next, 0, none⟩)) (A.add (.row z e .own)) := by
  obtain ⟨v, hv, hc, hzz⟩ := run_zero (σ := σ) hz w
  obtain ⟨σ', h1, h2, h3⟩ := hR.newOwn e hzz
  exact ⟨_, σ', _, by simp only [Instr.alloc, newVar, Sem.run_bind, hv, Result.andThen_ok, hc, run_newRow, Sem.run_pure], .ptr h3, h1, h2⟩
theorem box_run (hR : Rel P σ A w) {e : TypeId} {v v' : Value} (hv : VR σ v v') (hk : notU v = true) : Gives P σ A w ((Instr.box e v').run P w) (.pointer (some ⟨A.next, 0, none⟩)) (A.add (.row (cellsA v) e .own)) := by
  obtain ⟨σ', h1, h2, h3⟩ := hR.newOwn e (hv.cells hk)
  exact ⟨_, σ', _, by simp only [Instr.box, newVar, Sem.run_bind, run_newRow, Result.andThen_ok, Sem.run_pure], .ptr h3, h1, h2⟩
theorem length_lrep {α : Type} (z : List α) : ∀ n, (lrep n z).length = n * z.length := by
  intro n
  induction n with
  | zero => show ([] : List α).length = _; simp
  | succ n ih => show (z ++ lrep n z).length = _; rw [List.length_append, ih, Nat.succ_mul]; omega
theorem get_lrep (z : List Value) : ∀ (n i : Nat), i < n * z.length → (lrep n z)[i]? = some (z.toArray[i % z.length]!) := by
  intro n
  induction n with
  | zero => intro i h; omega
  | succ n ih =>
    intro i h
    have h0 : 0 < z.length := by rcases Nat.eq_zero_or_pos z.length with e | e; rw [e] at h; omega; exact e
    show (z ++ lrep n z)[i]? = _
    by_cases hi : i < z.length
    · rw [List.getElem?_append_left hi, Nat.mod_eq_of_lt hi]
      simp [hi]
    · rw [List.getElem?_append_right (by omega), ih (i - z.length) (by rw [Nat.succ_mul] at h; omega)]
      rw [← Nat.mod_eq_sub_mod (by omega)]
theorem range_lrep (z : List Value) (n : Nat) : (Array.range (n * z.length)).map (fun i => (z.toArray : Array Value)[i % z.length]!) = ⟨lrep n z⟩ := by
  apply Array.toList_inj.1
  apply List.ext_getElem?
  intro i
  by_cases hi : i < n * z.length
  · show _ = (lrep n z)[i]?
    rw [get_lrep z n i hi]
    simp [hi]
  · show _ = (lrep n z)[i]?
    rw [List.getElem?_eq_none (by simp; omega), List.getElem?_eq_none (by rw [length_lrep]; omega)]
theorem lrep_nil_of {z : List Value} {n : Nat} (h : n * z.length = 0) : lrep n z = [] := List.eq_nil_of_length_eq_zero (by rw [length_lrep]; exact h)
theorem VRL.lrep {z z' : List Value} (h : VRL σ z z') : ∀ n, VRL σ (lrep n z) (Ev.lrep n z') := by
  intro n
  induction n with
  | zero => exact .nil
  | succ n ih => exact h.append ih
theorem buildSlice_run (hR : Rel P σ A w) {t : TypeId} {len : Nat} {ps ps' : List (Nat × Value)} {v : Value} {A' : AW} (h : buildSliceA P t len ps A = some (v, A')) (hp : PR σ ps ps') :
    Gives P σ A w ((Instr.buildSlice t len ⟨ps'⟩).run P w) v A' := by
  simp only [buildSliceA, ob_some, bt_some, sliceT_some, lenB_iff, bleIff, newSlice, Option.some.injEq, Prod.mk.injEq] at h
  obtain ⟨e, ht, n, hn, z, hz, hzl, hle, c, hc, rfl, rfl⟩ := h
  have hle : len * n ≤ 16777216 := hle
  obtain ⟨zv, hzr, hzc, hzz⟩ := run_zero (σ := σ) hz w
  obtain ⟨cs, h1, h2⟩ := fill_run (pl' := fun i => some (i * n, n)) (fun i q hq => hq) hp hc (hzz.lrep len)
  obtain ⟨σ', g1, g2, g3⟩ := hR.newOwn e h2
  refine ⟨_, σ', _, ?_, .slice g3, g1, g2⟩
  have hnle : ¬ (len * n > 2 ^ 24) := by omega
  have hcells : (if len * n = 0 then (pure #[] : Sem (Array Value)) else do pure (← zeroValue e).cells).run P w = .ok (if len * n = 0 then #[] else ⟨z⟩) w := by
    split
    · rfl
    · simp only [Sem.run_bind, hzr, Result.andThen_ok, Sem.run_pure, hzc]
  have hrange : (Array.range (len * n)).map (fun i => (if len * n = 0 then #[] else (⟨z⟩ : Array Value))[i % (if len * n = 0 then #[] else (⟨z⟩ : Array Value)).size]!) = ⟨lrep len z⟩ := by
    by_cases h0 : len * n = 0
    · rw [h0, lrep_nil_of (by rw [hzl]; exact h0)]; apply Array.toList_inj.1; simp
    · rw [if_neg h0, ← hzl]; exact range_lrep z len
  by_cases h0 : len * n = 0
  · simp only [if_pos h0] at hrange
    simp only [Instr.buildSlice, Sem.run_bind, run_under ht, Result.andThen_ok, run_size hn, if_neg hnle, if_pos h0, Sem.run_pure, hrange, h1, run_newRow]
    rfl
  · simp only [if_neg h0] at hrange
    simp only [Instr.buildSlice, Sem.run_bind, run_under ht, Result.andThen_ok, run_size hn, if_neg hnle, if_neg h0, hzr, hzc, Sem.run_pure, hrange, h1, run_newRow]
    rfl
theorem store_run (hR : Rel P σ A w) {t : TypeId} {p p' v v' : Value} {A' : AW} (h : storeA P t A p v = some A') (hp : VR σ p p') (hv : VR σ v v') : Does P σ A w ((Instr.storeAt t p' v').run P w) A' := by
  simp only [storeA, ob_some, bt_some, ptrV_some, plainAt_some, rowAt_some, lenB_iff, Option.some.injEq] at h
  obtain ⟨a, rfl, ha, n, hn, hl, h1, c, e, m, hg, hm, c', hc', rfl⟩ := h
  rw [ha] at hp
  obtain ⟨b, d, hs, rfl⟩ := hp.ptr_inv
  obtain ⟨cc, fz, hw, hr⟩ := hR.row hs hg hm
  have hcl := hv.cells (notU_of_cells h1)
  obtain ⟨hle, hr2⟩ := hr.over hcl hc'
  obtain ⟨w', hst, q1, q2, q3, q4, q5, q6⟩ := cellsStored (P := P) (o := a.off) v'.cells.toList 0 cc w hw (by simpa using hle) (hcl.oneCells h1) (hr.free hm)
  simp only [Nat.add_zero] at q1
  obtain ⟨r1, r2⟩ := hR.upd (o2 := .row c' e m) hs hg hm q1 ⟨.inr rfl, hr2⟩ q2 q3 q4 q5 q6
  refine ⟨w', ?_, r1, r2⟩
  have hsz : v'.cells.size = n := by have := hcl.length; simpa [hl] using this
  simp only [Instr.storeAt, Instr.sureAddr, storeVar, Sem.run_bind, Sem.run_pure, Result.andThen_ok, run_size hn, hsz, ne_eq, not_true_eq_false, if_false]
  exact hst
theorem ER.get {es es' : List MapEntry} (h : ER σ es es') {k : Nat} {e : MapEntry} (hk : es[k]? = some e) : ∃ e', es'[k]? = some e' ∧ e'.key = e.key ∧ flat e.key = true ∧ VR σ e.val e'.val ∧ e'.born = e.born := by
  induction es generalizing es' k with
  | nil => simp at hk
  | cons x es ih =>
    cases h with
    | cons a b c d r =>
      cases k with
      | zero => simp at hk; subst hk; exact ⟨_, rfl, a, b, c, d⟩
      | succ k => simp at hk; simpa using ih r hk
theorem ER.set {es es' : List MapEntry} (h : ER σ es es') (k : Nat) {e e' : MapEntry} (h1 : e'.key = e.key) (h2 : flat e.key = true) (h3 : VR σ e.val e'.val) (h4 : e'.born = e.born) : ER σ (es.set k e) (es'.set k e') := by
  induction es generalizing es' k with
  | nil => cases h; exact .nil
  | cons x es ih =>
    cases h with
    | cons a b c d r =>
      cases k with
      | zero => exact .cons h1 h2 h3 h4 r
      | succ k => exact .cons a b c d (ih r k)
theorem ER.snoc {es es' : List MapEntry} (h : ER σ es es') {e e' : MapEntry} (h1 : e'.key = e.key) (h2 : flat e.key = true) (h3 : VR σ e.val e'.val) (h4 : e'.born = e.born) : ER σ (es ++ [e]) (es' ++ [e']) := by
  induction es generalizing es' with
  | nil => cases h; exact .cons h1 h2 h3 h4 .nil
  | cons x es ih => cases h with | cons a b c d r => exact .cons a b c d (ih r)
theorem ER.del {es es' : List MapEntry} (h : ER σ es es') (k : Nat) : ER σ (es.eraseIdx k) (es'.eraseIdx k) := by
  induction es generalizing es' k with
  | nil => cases h; exact .nil
  | cons x es ih =>
    cases h with
    | cons a b c d r =>
      cases k with
      | zero => exact r
      | succ k => exact .cons a b c d (ih r k)
theorem found_same {kd : TypeDesc} {k : Value} : ∀ {es : List MapEntry} {n i : Nat} {v : Value}, Instr.findNow kd k es n = some (some (i, v)) → ∃ j e, i = n + j ∧ es[j]? = some e ∧ Instr.sameNow kd k e.key = some true := by
  intro es
  induction es with
  | nil => intro n i v h; simp [Instr.findNow] at h
  | cons e es ih =>
    intro n i v h
    simp only [Instr.findNow] at h
    cases hs : Instr.sameNow kd k e.key with
    | none => rw [hs] at h; cases h
    | some b =>
      rw [hs] at h
      cases b with
      | true => cases h; exact ⟨0, e, rfl, rfl, hs⟩
      | false => obtain ⟨j, e', h1, h2, h3⟩ := ih h; exact ⟨j + 1, e', by omega, by simpa using h2, h3⟩
theorem bytes_beq {a b : ByteArray} (h : (a == b) = true) : a = b := by
  obtain ⟨a⟩ := a; obtain ⟨b⟩ := b
  have : (a == b) = true := h
  rw [eq_of_beq this]
theorem bytes_self (a : ByteArray) : (a == a) = true := by
  obtain ⟨a⟩ := a
  show (a == a) = true
  simp
theorem sameNow_eq {kd : TypeDesc} {k k2 : Value} (h : Instr.sameNow kd k k2 = some true) : k2 = k := by
  unfold Instr.sameNow at h
  split at h
  · split at h
    · rename_i e; subst e; simp at h; rw [h]
    · cases h
  · rw [bytes_beq (Option.some.inj h)]
  · simp at h; rw [h]
  · cases h
theorem sameNow_bits {kd : TypeDesc} {k k2 : Value} (h : Instr.sameNow kd k k2 = some true) : Instr.sameBits 10000 k k = true := by
  unfold Instr.sameNow at h
  split at h
  · simp [Instr.sameBits]
  · simp only [Instr.sameBits]; exact bytes_self _
  · simp [Instr.sameBits]
  · cases h
theorem run_setMap {r k k2 : Nat} {es es2 : Array MapEntry} (h : w.heap[r]? = some (.map es k)) : (setObj r (.map es2 k2)).run P w = .ok () { w with heap := w.heap.setIfInBounds r (.map es2 k2) } := by simp [setObj, Sem.run, h]
theorem Rel.updMap (hR : Rel P σ A w) {i b d k k2 : Nat} {es es2 : List MapEntry} {es' es2' : Array MapEntry} (hs : σ i = some (b, d)) (hg : A.heap.get i = some (.map es k)) (hw : w.heap[b]? = some (.map es' k)) (he : ER σ es2 es2'.toList) :
    Rel P σ (A.put i (.map es2 k2)) { w with heap := w.heap.setIfInBounds b (.map es2' k2) } ∧ Step σ A w σ (A.put i (.map es2 k2)) { w with heap := w.heap.setIfInBounds b (.map es2' k2) } := by
  have hlt := (Array.getElem?_eq_some_iff.1 hw).1
  refine hR.upd (x := .map es2' k2) hs hg rfl ?_ ⟨rfl, he⟩ ?_ ?_ rfl rfl rfl
  · simp [Array.getElem?_setIfInBounds, hlt]
  · intro j hj; simp only [Array.getElem?_setIfInBounds, if_neg (Ne.symm hj)]
  · simp
theorem mapUpdate_run (hR : Rel P σ A w) {t : TypeId} {m m' k k' v v' : Value} {A' : AW} (h : mapUpdateA P t A m k v = some A') (hm : VR σ m m') (hk : VR σ k k') (hv : VR σ v v') : Does P σ A w ((Instr.mapUpdate t m' k' v').run P w) A' := by
  simp only [mapUpdateA, ob_some, bt_some, mapT_some, mapV_some, mapAt_some, Option.some.injEq] at h
  obtain ⟨⟨kt, et⟩, ht, hf, kd, hkd, hkk, r, rfl, i, rfl, es, clock, hg, x, hx, y, hy, rfl⟩ := h
  obtain rfl := hk.of_flat hf
  simp only at ht hkd
  obtain ⟨b, d, hs, rfl⟩ := hm.map_inv
  obtain ⟨es', hw, he⟩ := hR.map hs hg
  obtain ⟨r', hr', hfr⟩ := findNow_run he hx
  have hfk := findKey_run (P := P) hkd hr' w
  cases hfr with
  | none =>
    have hy : some (es ++ [{ key := k', val := v, born := clock }], Nat.succ clock) = some y := hy
    cases hy
    obtain ⟨q1, q2⟩ := hR.updMap (k2 := clock + 1) (es2' := es'.push { key := k', val := v', born := clock }) hs hg hw (by simpa using he.snoc (e := { key := k', val := v, born := clock }) (e' := { key := k', val := v', born := clock }) rfl hf hv rfl)
    refine ⟨_, ?_, q1, q2⟩
    simp only [Instr.mapUpdate, Sem.run_bind, run_under ht, Result.andThen_ok, run_getMap hw, checkKey_run hkd hkk, hfk, run_setMap hw]
  | some hv0 =>
    rename_i j u u'
    have hy : (ob (lget es j) fun e => ob (lset { key := k', val := v, born := e.born } es j) fun es' => some (es', clock)) = some y := hy
    simp only [ob_some, lget_eq, Option.some.injEq] at hy
    obtain ⟨e, hej, es2, hes2, rfl⟩ := hy
    obtain ⟨rfl, hlt⟩ := lset_some _ _ _ _ hes2
    obtain ⟨e', he', hk1, hk2, hv1, hb1⟩ := he.get hej
    obtain ⟨j', e2, hj0, hj1, hj2⟩ := found_same hr'
    obtain rfl : j = j' := by omega
    rw [he'] at hj1; cases hj1
    have hkey : e'.key = k' := sameNow_eq hj2
    have hbits := sameNow_bits hj2
    have hmod : (es'.modify j fun e => { e with key := k', val := v' }).toList = es'.toList.set j { key := k', val := v', born := e'.born } := by
      rw [Array.toList_modify, ChangeMaps.modify_eq_set _ _ _ _ he']
    obtain ⟨q1, q2⟩ := hR.updMap (k2 := clock) (es2' := es'.modify j fun e => { e with key := k', val := v' }) hs hg hw (by rw [hmod]; exact he.set j (e := { key := k', val := v, born := e.born }) (e' := { key := k', val := v', born := e'.born }) rfl hf hv hb1)
    refine ⟨_, ?_, q1, q2⟩
    have hgk : ((es'[j]?).map (·.key)).getD k' = k' := by rw [← Array.getElem?_toList, he']; exact hkey
    have hst : (Instr.keyThatStays (((es'[j]?).map (·.key)).getD k') k').run P w = .ok k' w := by rw [hgk]; simp only [Instr.keyThatStays, hbits, if_true, Sem.run_pure]
    simp only [Instr.mapUpdate, Sem.run_bind, run_under ht, Result.andThen_ok, run_getMap hw, checkKey_run hkd hkk, hfk, hst, run_setMap hw]
theorem delete_run (hR : Rel P σ A w) {t : TypeId} {m m' k k' : Value} {A' : AW} {ts : List TypeId} {ty : TypeId} (h : deleteA P t A m k = some A') (hm : VR σ m m') (hk : VR σ k k') : Gives P σ A w ((Builtin.delete_ ⟨t :: ts⟩ ty #[m', k']).run P w) (.tuple #[]) A' := by
  simp only [deleteA, ob_some, bt_some, mapT_some, mapV_some, mapAt_some] at h
  obtain ⟨⟨kt, et⟩, ht, hf, kd, hkd, hkk, r, rfl, i, rfl, es, clock, hg, x, hx, h⟩ := h
  obtain rfl := hk.of_flat hf
  simp only at ht hkd
  obtain ⟨b, d, hs, rfl⟩ := hm.map_inv
  obtain ⟨es', hw, he⟩ := hR.map hs hg
  obtain ⟨r', hr', hfr⟩ := findNow_run he hx
  have hfk := findKey_run (P := P) hkd hr' w
  have h0 : (⟨t :: ts⟩ : Array TypeId)[0]? = some t := rfl
  have ha0 : (#[Value.map (some b), k'] : Array Value)[0]? = some (.map (some b)) := rfl
  have ha1 : (#[Value.map (some b), k'] : Array Value)[1]? = some k' := rfl
  cases hfr with
  | none =>
    have h : some A = some A' := h
    cases h
    refine ⟨.tuple #[], σ, w, ?_, .undef, hR, .refl hR.lim⟩
    have hlt := (Array.getElem?_eq_some_iff.1 hw).1
    have hsame : (setObj b (.map es' clock)).run P w = .ok () w := by
      rw [run_setMap hw]
      congr
      have hgb := (Array.getElem?_eq_some_iff.1 hw).2
      rw [← hgb]
      apply Array.ext (by simp)
      intro q h1 h2
      rw [Array.getElem_setIfInBounds]
      split
      · rename_i e; subst e; rfl
      · rfl
    simp only [Builtin.delete_, h0, ha0, ha1, Sem.run_bind, run_under ht, Result.andThen_ok, run_getMap hw, checkKey_run hkd hkk, hfk, hsame, Sem.run_pure]
  | some hv0 =>
    rename_i j u u'
    have h : some (A.put i (.map (ldel es j) clock)) = some A' := h
    cases h
    obtain ⟨q1, q2⟩ := hR.updMap (k2 := clock) (es2 := ldel es j) (es2' := es'.eraseIdxIfInBounds j) hs hg hw (by rw [ldel_eq, Array.toList_eraseIdxIfInBounds]; exact he.del j)
    refine ⟨.tuple #[], σ, _, ?_, .undef, q1, q2⟩
    simp only [Builtin.delete_, h0, ha0, ha1, Sem.run_bind, run_under ht, Result.andThen_ok, run_getMap hw, checkKey_run hkd hkk, hfk, run_setMap hw, Sem.run_pure]
theorem run_asInt (k : IntKind) (n : Int) (w : World) : (asInt (.int k n)).run P w = .ok n w := rfl
theorem makeMap_run (hR : Rel P σ A w) {t : TypeId} {r : Option Value} (hr : ∀ v, r = some v → (∃ k n, v = .int k (.ofNat n)) ∧ ∃ q : TypeId × TypeId, P.underlying t = some (.map q.1 q.2)) : Gives P σ A w ((Instr.makeMap t r).run P w) (.map (some A.next)) (A.add (.map [] 0)) := by
  obtain ⟨h1, h2⟩ := hR.new (w' := { w with heap := w.heap.push (.map #[] 0) }) (o := .map [] 0) (x := .map #[] 0) (d := 0) rfl ⟨rfl, .nil⟩ rfl rfl rfl
  refine ⟨_, _, _, ?_, .map (ext_self _ _), h1, h2⟩
  cases r with
  | none => rfl
  | some v =>
    obtain ⟨⟨k, n, rfl⟩, q, hq⟩ := hr v rfl
    simp only [Instr.makeMap, Sem.run_bind, run_under hq, Result.andThen_ok, run_asInt, Sem.run_pure, run_newObj]
theorem i64V_some {v : Value} {n : Nat} : i64V v = some n ↔ v = .int .i64 (.ofNat n) := by
  cases v <;> simp [i64V]
  rename_i k i; cases k <;> cases i <;> simp
  exact Int.ofNat_inj.symm
theorem few_le {n by_ : Nat} (h : few n by_ = true) : n ≤ 1073741824 ∧ n * by_ ≤ 1073741824 := by
  have h : n * (by_ + 1) ≤ 1073741824 := bleIff.1 h
  rw [Nat.mul_add] at h
  omega
theorem wrap_small {n : Nat} (h : n ≤ 1073741824) : IntKind.i64.wrap (Int.ofNat n) = Int.ofNat n := by
  simp [IntKind.wrap, IntKind.bits, IntKind.signed]; omega
theorem makeSlice_core {t e : TypeId} {z : List Value} {ln cn : Nat} {i : TypeInfo} (ht : P.underlying t = some (.slice e)) (hz : zeroA P e = some z) (hi : P.info? e = some i) (hzl : z.length = i.size) (hle : ln ≤ cn) (hfew : few cn i.bytes = true) (w : World) :
    (Instr.makeSlice t (.int .i64 (.ofNat ln)) (.int .i64 (.ofNat cn))).run P w = .ok (.slice (some ⟨w.heap.size, 0, none⟩) ln cn) { w with heap := w.heap.push (.cells ⟨lrep cn z⟩ e) } := by
  obtain ⟨f1, f2⟩ := few_le hfew
  obtain ⟨zv, hzr, hzc, _⟩ := run_zero (σ := fun _ => none) hz w
  have hw1 := wrap_small f1
  have hw2 : IntKind.i64.wrap (Int.ofNat ln) = Int.ofNat ln := wrap_small (Nat.le_trans hle f1)
  have hcells : (if cn * i.size = 0 then (pure #[] : Sem (Array Value)) else do pure (← zeroValue e).cells).run P w = .ok (if cn * i.size = 0 then #[] else ⟨z⟩) w := by
    split
    · rfl
    · simp only [Sem.run_bind, hzr, Result.andThen_ok, Sem.run_pure, hzc]
  have hrange : (Array.range (cn * i.size)).map (fun j => (if cn * i.size = 0 then #[] else (⟨z⟩ : Array Value))[j % (if cn * i.size = 0 then #[] else (⟨z⟩ : Array Value)).size]!) = ⟨lrep cn z⟩ := by
    by_cases h0 : cn * i.size = 0
    · rw [h0, lrep_nil_of (by rw [hzl]; exact h0)]; apply Array.toList_inj.1; simp
    · rw [if_neg h0, ← hzl]; exact range_lrep z cn
  have hb : ((decide (Int.ofNat cn < 0) || decide ((i.bytes : Int) * Int.ofNat cn > 2 ^ 48)) || decide (Int.ofNat ln < 0) || decide (Int.ofNat ln > Int.ofNat cn)) = false := by
    have : (i.bytes : Int) * Int.ofNat cn = ((cn * i.bytes : Nat) : Int) := by rw [Nat.mul_comm]; simp
    rw [this]
    simp
    omega
  have hsz : (sizeOf e).run P w = .ok i.size w := run_size (sizeA_some.2 ⟨i, hi, rfl⟩) w
  have htn : (Int.ofNat cn).toNat = cn := rfl
  have htl : (Int.ofNat ln).toNat = ln := rfl
  by_cases h0 : cn * i.size = 0
  · simp only [if_pos h0] at hrange
    simp only [Instr.makeSlice, Sem.run_bind, run_under ht, Result.andThen_ok, run_asInt, Sem.run_pure, run_info hi, hw1, hw2, hb, Bool.false_eq_true, if_false, run_askRoom, htn, htl, hsz, if_pos h0, hrange, run_newRow]
  · simp only [if_neg h0] at hrange
    simp only [Instr.makeSlice, Sem.run_bind, run_under ht, Result.andThen_ok, run_asInt, Sem.run_pure, run_info hi, hw1, hw2, hb, Bool.false_eq_true, if_false, run_askRoom, htn, htl, hsz, if_neg h0, hzr, hzc, hrange, run_newRow]
theorem makeSlice_run (hR : Rel P σ A w) {t : TypeId} {l l' c c' v : Value} {A' : AW} (h : makeSliceA P t A l c = some (v, A')) (hl : VR σ l l') (hc : VR σ c c') : Gives P σ A w ((Instr.makeSlice t l' c').run P w) v A' := by
  simp only [makeSliceA, ob_some, bt_some, sliceT_some, lenB_iff, bleIff, i64V_some, newSlice, Option.some.injEq, Prod.mk.injEq] at h
  obtain ⟨e, ht, ln, rfl, cn, rfl, z, hz, i, hi, hzl, hle, hfew, rfl, rfl⟩ := h
  obtain rfl := hl.of_flat rfl
  obtain rfl := hc.of_flat rfl
  obtain ⟨_, _, _, hzz⟩ := run_zero (σ := σ) hz w
  obtain ⟨σ', g1, g2, g3⟩ := hR.newOwn e (hzz.lrep cn)
  exact ⟨_, σ', _, makeSlice_core ht hz hi hzl hle hfew w, .slice g3, g1, g2⟩
end Go.Ev
end

/- The evaluator: append and copy. -/
section
set_option linter.unusedSectionVars false
namespace Go.Ev
variable {P : Program} {σ σ' : Sg} {A : AW} {w w' : World} [Frozen P]
theorem loadCells_at {w : World} {b o n : Nat} {c' : Array Value} {e : TypeId} {fz : Nat × Nat} (hw : w.heap[b]? = some (.cells c' e fz)) (h : o + n ≤ c'.size) :
    (loadCells ⟨b, o, none⟩ n).run P w = .ok ⟨(c'.toList.drop o).take n⟩ w := by
  have hll : ((c'.toList.drop o).take n).length = n := by simp; omega
  have hload := run_loadCells_list (P := P) (w := w) ⟨b, o, none⟩ ((c'.toList.drop o).take n) (fun j v hj => by
    rw [add_plain]
    refine cell_of hw ?_
    have hjl : j < n := by
      rcases Nat.lt_or_ge j n with h' | h'
      · exact h'
      · rw [List.getElem?_eq_none (by omega)] at hj; cases hj
    rw [List.getElem?_take, if_pos hjl, List.getElem?_drop, Array.getElem?_toList] at hj
    exact hj)
  rw [hll] at hload
  exact hload
theorem VRL.bytes (l : List UInt8) : VRL σ (l.map byteOf') (l.map byteOf') := by
  induction l with
  | nil => exact .nil
  | cons a l ih => exact .cons (.flat rfl) ih
theorem srcA_slice {H : T AO} {size n j o len cap : Nat} : srcA H size n (.slice (some ⟨j, o, none⟩) len cap) = rowAt H j fun c _ _ => lsub c o (Nat.mul n size) := rfl
theorem srcA_run (hR : Rel P σ A w) {size n : Nat} {x x' : Value} {xs : List Value} (h : srcA A.heap size n x = some xs) (hx : VR σ x x') :
    ∃ xs', VRL σ xs xs' ∧ ∀ w2 : World, w2.heap = w.heap → (Builtin.firstCells size n x').run P w2 = .ok ⟨xs'⟩ w2 := by
  cases x with
  | slice a l c =>
    cases a with
    | none =>
      have h : some [] = some xs := h
      cases h
      have hx' : x' = .slice none l c := by cases hx with | flat e => rfl
      subst hx'
      exact ⟨[], .nil, fun w2 _ => rfl⟩
    | some a =>
      have h : (plainAt a fun b o => rowAt A.heap b fun c _ _ => lsub c o (Nat.mul n size)) = some xs := h
      simp only [plainAt_some, rowAt_some] at h
      obtain ⟨ha, cc, e, m, hg, hl⟩ := h
      rw [ha] at hx
      obtain ⟨b, d, hs, rfl⟩ := hx.slice_inv
      obtain ⟨c', e', fz, hw, hr, _⟩ := hR.rowA hs hg
      obtain ⟨rfl, hle⟩ := lsub_some hl
      have hle : a.off + n * size ≤ cc.length := hle
      obtain ⟨cs, y, ec, hc, _⟩ := hr.cells
      have hlen := hc.length
      have hsz : c'.size = cs.length + y.length := by have := congrArg List.length ec; simpa using this
      refine ⟨(cs.drop a.off).take (n * size), (hc.drop _).take _, fun w2 hw2 => ?_⟩
      have := loadCells_at (P := P) (w := w2) (b := b) (o := a.off) (n := n * size) (c' := c') (e := e') (fz := fz) (by rw [hw2]; exact hw) (by omega)
      rw [ec, List.drop_append_of_le_length (by omega), List.take_append_of_le_length (by simp; omega)] at this
      exact this
  | string s =>
    have h : bt (Nat.beq size 1) (ob (ltake n s.data.toList) fun l => some (l.map byteOf')) = some xs := h
    simp only [bt_some, ob_some, Option.some.injEq] at h
    obtain ⟨_, l, hl, rfl⟩ := h
    obtain ⟨rfl, hle⟩ := ltake_some _ _ _ hl
    have hx' := hx.of_flat rfl
    subst hx'
    refine ⟨_, .bytes _, fun w2 _ => ?_⟩
    obtain ⟨⟨s⟩⟩ := s
    simp only [Builtin.firstCells, Sem.run_pure]
    congr 1
    apply Array.toList_inj.1
    rw [Array.toList_map, ByteArray.data_extract, Array.toList_extract, List.extract_eq_take_drop]
    simp
    rfl
  | _ => cases h
theorem lenV_run {x x' : Value} {m : Nat} (h : lenV x = some m) (hx : VR σ x x') (w : World) : (Builtin.lenOf x').run P w = .ok m w := by
  cases x with
  | slice a l c =>
    cases h
    cases hx with
    | flat e => rfl
    | slice e => rfl
  | string s =>
    have h : fnat s.data.toList.length some = some m := h
    rw [fnat_eq] at h; cases h
    have hx' := hx.of_flat rfl
    subst hx'
    rfl
  | _ => cases h
theorem grow_le (need : Nat) : ∀ (r c : Nat), c ≤ 2 * need + 1000 → Builtin.growBy need r c ≤ 2 * need + 1000 := by
  intro r
  induction r with
  | zero => intro c h; exact h
  | succ r ih =>
    intro c h
    unfold Builtin.growBy
    split
    · exact h
    · exact ih _ (by omega)
theorem next_le {need cap by_ : Nat} (h : few need by_ = true) (hc : ¬ need ≤ cap) : ¬ Builtin.nextslicecap need cap * by_ > 2 ^ 48 := by
  have h : need * (by_ + 1) ≤ 1073741824 := bleIff.1 h
  have hn : Builtin.nextslicecap need cap ≤ 2 * need + 1000 := by
    unfold Builtin.nextslicecap
    split
    · omega
    · split
      · omega
      · exact grow_le _ _ _ (by omega)
  have h1 : by_ + 1 ≤ need * (by_ + 1) := Nat.le_mul_of_pos_left _ (by omega)
  have h2 : Builtin.nextslicecap need cap * by_ ≤ (2 * need + 1000) * by_ := Nat.mul_le_mul_right _ hn
  have h3 : (2 * need + 1000) * by_ = 2 * (need * by_) + 1000 * by_ := by rw [Nat.add_mul, Nat.mul_assoc]
  have h4 : need * (by_ + 1) = need * by_ + need := by rw [Nat.mul_add, Nat.mul_one]
  omega
section
variable {t xt ty e : TypeId} {xd : TypeDesc} {i : TypeInfo} {z x' : Value} {ts : Array TypeId} {base : Option Addr} {len cap m : Nat} {xs' old' : List Value}
theorem append_room (h0 : ts[0]? = some t) (h1 : ts[1]? = some xt) (ht : P.underlying t = some (.slice e)) (hi : P.info? e = some i) (hxt : P.underlying xt = some xd) (hni : notInt xd = true)
    (hlen : (Builtin.lenOf x').run P w = .ok m w) (hsrc : (Builtin.firstCells i.size m x').run P w = .ok ⟨xs'⟩ w) (hle : len + m ≤ cap) :
    (Builtin.append_ ts ty #[.slice base len cap, x']).run P w = ((match base with | some a => storeCells (a.add (len * i.size)) xs' | none => pure ()) >>= fun _ => (pure (.slice base (len + m) cap) : Sem Value)).run P w := by
  have hsz : (sizeOf e).run P w = .ok i.size w := run_size (sizeA_some.2 ⟨i, hi, rfl⟩) w
  have ha0 : (#[Value.slice base len cap, x'] : Array Value)[0]? = some (.slice base len cap) := rfl
  have ha1 : (#[Value.slice base len cap, x'] : Array Value)[1]? = some x' := rfl
  have hd : ∀ w, (do pure ((← underlying xt) matches .int _) : Sem Bool).run P w = .ok false w := by
    intro w
    simp only [Sem.run_bind, run_under hxt, Result.andThen_ok]
    cases xd <;> first | rfl | (cases hni)
  unfold Builtin.append_
  simp only [h0, h1, ha0, ha1, Sem.run_bind, run_under ht, Result.andThen_ok, hsz, run_under hxt]
  cases xd <;> first | (cases hni; done) | (simp only [Bool.false_eq_true, if_false, hlen, if_pos hle, Bool.not_false, if_true, hsrc, Sem.run_pure, Sem.run_bind, Result.andThen_ok]; cases base <;> simp only [Sem.run_bind, Sem.run_pure, Result.andThen_ok])
theorem append_grow (h0 : ts[0]? = some t) (h1 : ts[1]? = some xt) (ht : P.underlying t = some (.slice e)) (hi : P.info? e = some i) (hz : i.zero = some z) (hxt : P.underlying xt = some xd) (hni : notInt xd = true)
    (hlen : (Builtin.lenOf x').run P w = .ok m w) (hsrc : ∀ w2 : World, w2.heap = w.heap → (Builtin.firstCells i.size m x').run P w2 = .ok ⟨xs'⟩ w2)
    (hold : ∀ w2 : World, w2.heap = w.heap → (Builtin.firstCells i.size len (.slice base len cap)).run P w2 = .ok ⟨old'⟩ w2) (hle : ¬ len + m ≤ cap) (hf : few (len + m) i.bytes = true) :
    ∃ nc, len + m ≤ nc ∧ (Builtin.append_ ts ty #[.slice base len cap, x']).run P w =
      .ok (.slice (some ⟨w.heap.size, 0, none⟩) (len + m) nc) { w with drawn := w.drawn + 1, heap := w.heap.push (.cells ⟨old' ++ xs' ++ lrep (nc - (len + m)) z.cells.toList⟩ e) } := by
  have hsz : (sizeOf e).run P w = .ok i.size w := run_size (sizeA_some.2 ⟨i, hi, rfl⟩) w
  have ha0 : (#[Value.slice base len cap, x'] : Array Value)[0]? = some (.slice base len cap) := rfl
  have ha1 : (#[Value.slice base len cap, x'] : Array Value)[1]? = some x' := rfl
  have hcap := next_le hf hle
  have hmax : ¬ (((len + m : Nat) : Int) > IntKind.i64.max) := by
    have := (few_le hf).1
    show ¬ (((len + m : Nat) : Int) > 9223372036854775807)
    omega
  have hzero : ∀ w2 : World, (zeroValue e).run P w2 = .ok z w2 := fun w2 => by simp [zeroValue, run_info hi, hz]
  have hzc : ∀ n, Builtin.zeroCells z.cells n = ⟨lrep n z.cells.toList⟩ := fun n => by
    have := range_lrep z.cells.toList n
    simpa [Builtin.zeroCells] using this
  refine ⟨(Question.appendCap (len + m) cap e).cut (w.tape w.drawn (.appendCap (len + m) cap e)), Nat.le_add_right _ _, ?_⟩
  have hch : (choose (.appendCap (len + m) cap e)).run P w = .ok ((Question.appendCap (len + m) cap e).cut (w.tape w.drawn (.appendCap (len + m) cap e))) { w with drawn := w.drawn + 1 } := by
    simp [choose, Sem.run, Question.forced]
  unfold Builtin.append_
  simp only [h0, h1, ha0, ha1, Sem.run_bind, run_under ht, Result.andThen_ok, hsz, run_under hxt]
  cases xd <;> first | (cases hni; done) | (simp only [Bool.false_eq_true, if_false, hlen, if_neg hle, Bool.not_false, if_true, run_info hi, hmax, false_and, hcap, Sem.run_pure, Sem.run_bind, Result.andThen_ok,
    hch, run_askRoom, hsrc { w with drawn := w.drawn + 1 } rfl, hold { w with drawn := w.drawn + 1 } rfl, hzero, hzc, run_newRow]; simp)
end
theorem ltake_all {α : Type} : ∀ (l : List α) (n : Nat), l.length = n → ltake n l = some l := by
  intro l
  induction l with
  | nil => intro n h; cases h; rfl
  | cons x l ih => intro n h; cases h; show ocons x (ltake l.length l) = _; rw [ih _ rfl]; rfl
section
variable {t xt ty e e' : TypeId} {xd : TypeDesc} {i : TypeInfo} {z x' v : Value} {ts : Array TypeId} {j b o d len cap m : Nat} {c xs xs' : List Value} {md : Md} {A' : AW}
theorem appOwn_run (hR : Rel P σ A w) (h0 : ts[0]? = some t) (h1 : ts[1]? = some xt) (ht : P.underlying t = some (.slice e)) (hi : P.info? e = some i) (hz : i.zero = some z) (hzl : z.cells.toList.length = i.size) (hxt : P.underlying xt = some xd) (hni : notInt xd = true)
    (hlen : (Builtin.lenOf x').run P w = .ok m w) (hsrc : ∀ w2 : World, w2.heap = w.heap → (Builtin.firstCells i.size m x').run P w2 = .ok ⟨xs'⟩ w2) (hxx : VRL σ xs xs') (hxl : xs.length = m * i.size)
    (hsg : σ j = some (b, d)) (hg : A.heap.get j = some (.row c e' md)) (hmd : md.roomy = false) (h : appOwn A e i.size i.bytes j o len cap c e' md m xs = some (v, A')) :
    Gives P σ A w ((Builtin.append_ ts ty #[.slice (some ⟨b, o, none⟩) len (cap + d), x']).run P w) v A' := by
  obtain ⟨_, _, _, _, hr0, _⟩ := hR.rowA hsg hg
  obtain rfl : d = 0 := hr0.exact_ hmd
  have hxl' : xs'.length = m * i.size := by rw [hxx.length]; exact hxl
  unfold appOwn at h
  cases hb : Nat.ble (Nat.add len m) cap with
  | true =>
    rw [hb] at h
    have hle : len + m ≤ cap := bleIff.1 hb
    simp only [bt_some, ob_some, fnat_eq, Option.some.injEq, Prod.mk.injEq] at h
    obtain ⟨hwr, h1c, c2, hc2, rfl, rfl⟩ := h
    obtain ⟨c', fz, hw, hr⟩ := hR.row hsg hg hwr
    rw [append_room h0 h1 ht hi hxt hni hlen (hsrc w rfl) (by simpa using hle)]
    have hc2 : lover xs (o + len * i.size) c = some c2 := hc2
    obtain ⟨hfit, hr2⟩ := hr.over hxx hc2
    obtain ⟨w', hst, q1, q2, q3, q4, q5, q6⟩ := cellsStored (P := P) (o := o + len * i.size) xs' 0 c' w hw (by simpa using hfit) (hxx.oneCells h1c) (hr.free hwr)
    simp only [Nat.add_zero] at q1
    obtain ⟨r1, r2⟩ := hR.upd (o2 := .row c2 e' md) hsg hg hwr q1 ⟨.inr rfl, hr2⟩ q2 q3 q4 q5 q6
    refine ⟨_, σ, w', ?_, .slice hsg, r1, r2⟩
    simp only [add_plain, Sem.run_bind, hst, Result.andThen_ok, Sem.run_pure]
    rfl
  | false =>
    rw [hb] at h
    have hle : ¬ len + m ≤ cap := fun hh => by rw [show Nat.ble (Nat.add len m) cap = true from bleIff.2 hh] at hb; cases hb
    simp only [bt_some, ob_some, fnat_eq, newSlice, Option.some.injEq, Prod.mk.injEq] at h
    obtain ⟨hf, old, hold, rfl, rfl⟩ := h
    have hs : VR σ (.slice (some ⟨j, o, none⟩) len cap) (.slice (some ⟨b, o, none⟩) len (cap + 0)) := .slice hsg
    obtain ⟨old', hoo, hold'⟩ := srcA_run (n := len) (size := i.size) hR (xs := old) (by
      rw [srcA_slice, rowAt_some]
      exact ⟨c, e', md, hg, hold⟩) hs
    obtain ⟨nc, hnc, hrun⟩ := append_grow (P := P) (w := w) (ty := ty) h0 h1 ht hi hz hxt hni hlen hsrc hold' (by simpa using hle) hf
    have hol : old'.length = len * i.size := by
      rw [hoo.length]
      obtain ⟨rfl, hle2⟩ := lsub_some hold
      have hle2 : o + len * i.size ≤ c.length := hle2
      show ((c.drop o).take (len * i.size)).length = _
      simp; omega
    have hgg := hR.new (o := .row (old ++ xs) e (.grown (len + m))) (d := nc - (len + m)) (x := .cells ⟨old' ++ xs' ++ lrep (nc - (len + m)) z.cells.toList⟩ e)
      (w' := { w with drawn := w.drawn + 1, heap := w.heap.push (.cells ⟨old' ++ xs' ++ lrep (nc - (len + m)) z.cells.toList⟩ e) }) rfl
      ⟨.inr rfl, rowR_grown (cs := old' ++ xs') (hoo.append hxx) hi (by rw [List.length_append, List.length_append, length_lrep, hxl', hzl, hol, ← Nat.add_mul, ← Nat.add_mul]) (unfrozen_zero _)⟩ rfl rfl rfl
    refine ⟨_, _, _, hrun, ?_, hgg.1, hgg.2⟩
    have := VR.slice (σ := ext σ A.next (w.heap.size, nc - (len + m))) (i := A.next) (o := 0) (l := len + m) (c := len + m) (ext_self _ _)
    rw [show len + m + (nc - (len + m)) = nc by omega] at this
    exact this
theorem appGrown_run (hR : Rel P σ A w) (h0 : ts[0]? = some t) (h1 : ts[1]? = some xt) (ht : P.underlying t = some (.slice e)) (hi : P.info? e = some i) (hz : i.zero = some z) (hzl : z.cells.toList.length = i.size) (hxt : P.underlying xt = some xd) (hni : notInt xd = true)
    (hlen : (Builtin.lenOf x').run P w = .ok m w) (hsrc : ∀ w2 : World, w2.heap = w.heap → (Builtin.firstCells i.size m x').run P w2 = .ok ⟨xs'⟩ w2) (hxx : VRL σ xs xs') (hxl : xs.length = m * i.size) {rc : Nat}
    (hsg : σ j = some (b, d)) (hg : A.heap.get j = some (.row c e' (.grown rc))) (h : appGrown A e i.size i.bytes j o len cap c e' rc m xs = some (v, A')) :
    Gives P σ A w ((Builtin.append_ ts ty #[.slice (some ⟨b, o, none⟩) len (cap + d), x']).run P w) v A' := by
  obtain ⟨c', fz, hw, hr⟩ := hR.row hsg hg rfl
  have hxl' : xs'.length = m * i.size := by rw [hxx.length]; exact hxl
  simp only [appGrown, bt_some, beqIff, lenB_iff, Bool.and_eq_true, bleIff] at h
  obtain ⟨rfl, rfl, hcl, ⟨rfl, hlr⟩, hf, h1c, h⟩ := h
  have hcl : c.length = len * i.size := hcl
  obtain ⟨cs, y, ec, hc, _⟩ := hr.cells
  have hcs : cs.length = len * i.size := by rw [hc.length]; exact hcl
  have hsz := hr.cap cap rfl i hi
  have hsz2 : c'.size = cs.length + y.length := by have := congrArg List.length ec; simpa using this
  have h : (fnat (Nat.add len m) fun n => fnat (Bool.rec n cap (Nat.ble n cap)) fun k => newSlice (A.put j .dead) n k (c ++ xs) e (.grown k)) = some (v, A') := h
  simp only [fnat_eq, newSlice, Option.some.injEq, Prod.mk.injEq] at h
  obtain ⟨rfl, rfl⟩ := h
  have hadd : Nat.add len m = len + m := rfl
  simp only [hadd] at *
  by_cases hin : len + m ≤ cap + d
  · -- in place
    rw [append_room h0 h1 ht hi hxt hni hlen (hsrc w rfl) hin]
    have hk : ∃ k d2, (Bool.rec (len + m) cap (Nat.ble (len + m) cap) : Nat) = k ∧ k + d2 = cap + d := by
      cases hb : Nat.ble (len + m) cap with
      | true => exact ⟨cap, d, rfl, rfl⟩
      | false => exact ⟨len + m, cap + d - (len + m), rfl, by omega⟩
    obtain ⟨k, d2, hk, hkd⟩ := hk
    rw [hk]
    have hfit : len * i.size + xs'.length ≤ c'.size := by rw [hxl', hsz, ← Nat.add_mul]; exact Nat.mul_le_mul_right _ hin
    obtain ⟨w', hst, q1, q2, q3, q4, q5, q6⟩ := cellsStored (P := P) (o := len * i.size) xs' 0 c' w hw (by simpa using hfit) (hxx.oneCells h1c) (hr.free rfl)
    simp only [Nat.add_zero] at q1
    have hnew : (⟨c'.toList.take (len * i.size) ++ (xs' ++ c'.toList.drop (len * i.size + xs'.length))⟩ : Array Value) = ⟨(cs ++ xs') ++ y.drop xs'.length⟩ := by
      congr 1
      rw [ec, ← hcs, List.take_left, List.drop_append, List.drop_eq_nil_of_le (by omega)]
      simp
    rw [hnew] at q1
    have hyl : ((cs ++ xs') ++ y.drop xs'.length).length = c'.size := by simp; omega
    obtain ⟨r1, r2⟩ := hR.move (d2 := d2) (o2 := .row (c ++ xs) e (.grown k)) hsg hg rfl q1 ⟨.inr rfl, rowR_grown (hc.append hxx) hi (by rw [hyl, hsz, hkd]) (by rw [hyl]; exact hr.free rfl)⟩ q2 q3 q4 q5 q6
    refine ⟨.slice (some ⟨b, 0, none⟩) (len + m) (cap + d), _, w', ?_, ?_, r1, r2⟩
    · simp only [add_plain, Nat.zero_add, Sem.run_bind, hst, Result.andThen_ok, Sem.run_pure]
    · have := VR.slice (σ := ext σ A.next (b, d2)) (i := A.next) (o := 0) (l := len + m) (c := k) (ext_self _ _)
      rw [hkd] at this
      exact this
  · -- moved
    have hb : Nat.ble (len + m) cap = false := by
      cases hb : Nat.ble (len + m) cap with
      | false => rfl
      | true => exact absurd (bleIff.1 hb) (by omega)
    simp only [hb]
    have hs : VR σ (.slice (some ⟨j, 0, none⟩) len cap) (.slice (some ⟨b, 0, none⟩) len (cap + d)) := .slice hsg
    obtain ⟨old', hoo, hold'⟩ := srcA_run (n := len) (size := i.size) hR (xs := c) (by
      rw [srcA_slice, rowAt_some]
      exact ⟨c, e, _, hg, ltake_all c _ hcl⟩) hs
    obtain ⟨nc, hnc, hrun⟩ := append_grow (P := P) (w := w) (ty := ty) h0 h1 ht hi hz hxt hni hlen hsrc hold' hin hf
    have hol : old'.length = len * i.size := by rw [hoo.length]; exact hcl
    obtain ⟨k1, k2⟩ := hR.kill (hR.lt hsg)
    have hgg := k1.new (o := .row (c ++ xs) e (.grown (len + m))) (d := nc - (len + m)) (x := .cells ⟨old' ++ xs' ++ lrep (nc - (len + m)) z.cells.toList⟩ e)
      (w' := { w with drawn := w.drawn + 1, heap := w.heap.push (.cells ⟨old' ++ xs' ++ lrep (nc - (len + m)) z.cells.toList⟩ e) }) rfl
      ⟨.inr rfl, rowR_grown (cs := old' ++ xs') (hoo.append hxx) hi (by rw [List.length_append, List.length_append, length_lrep, hxl', hzl, hol, ← Nat.add_mul, ← Nat.add_mul]) (unfrozen_zero _)⟩ rfl rfl rfl
    refine ⟨_, _, _, hrun, ?_, hgg.1, k2.trans hgg.2⟩
    have := VR.slice (σ := ext σ A.next (w.heap.size, nc - (len + m))) (i := A.next) (o := 0) (l := len + m) (c := len + m) (ext_self _ _)
    rw [show len + m + (nc - (len + m)) = nc by omega] at this
    exact this
end
theorem append_run (hR : Rel P σ A w) {t ty : TypeId} {ts : Array TypeId} {xt : Option TypeId} {s s' x x' v : Value} {A' : AW} (h0 : ts[0]? = some t) (h1 : ts[1]? = xt) (h : appendA P t xt A s x = some (v, A')) (hs : VR σ s s') (hx : VR σ x x') :
    Gives P σ A w ((Builtin.append_ ts ty #[s', x']).run P w) v A' := by
  simp only [appendA, ob_some, bt_some, sliceT_some, lenB_iff] at h
  obtain ⟨e, ht, xt', rfl, xd, hxt, hni, i, hi, z, hz, hzl, m, hm, xs, hxs, hxl, h⟩ := h
  have hxl : xs.length = m * i.size := hxl
  have hlen := lenV_run (P := P) hm hx w
  obtain ⟨xs', hxx, hsrc⟩ := srcA_run hR hxs hx
  have hxl' : xs'.length = m * i.size := by rw [hxx.length]; exact hxl
  have hzl' : z.cells.toList.length = i.size := by
    have : (cellsA z) = z.cells.toList := by cases z <;> rfl
    rw [← this]; exact hzl
  cases s with
  | slice a len cap =>
    cases a with
    | none =>
      have h : bt (Nat.beq cap 0) (appNil A e i.bytes m xs) = some (v, A') := h
      simp only [bt_some, beqIff] at h
      obtain ⟨rfl, h⟩ := h
      have hs' : s' = .slice none 0 0 ∧ len = 0 := by
        cases hs with
        | flat e => cases len with
          | zero => exact ⟨rfl, rfl⟩
          | succ n => simp [Ev.flat] at e
      obtain ⟨rfl, rfl⟩ := hs'
      cases m with
      | zero =>
        have h : some (Value.slice none 0 0, A) = some (v, A') := h
        cases h
        rw [append_room h0 h1 ht hi hxt hni hlen (hsrc w rfl) (Nat.le_refl _)]
        exact ⟨_, σ, w, rfl, .flat rfl, hR, .refl hR.lim⟩
      | succ m =>
        have h : bt (few (m + 1) i.bytes) (newSlice A (m + 1) (m + 1) xs e (.grown (m + 1))) = some (v, A') := h
        simp only [bt_some, newSlice, Option.some.injEq, Prod.mk.injEq] at h
        obtain ⟨hf, rfl, rfl⟩ := h
        obtain ⟨nc, hnc, hrun⟩ := append_grow (P := P) (w := w) (ty := ty) (base := none) (len := 0) (cap := 0) (old' := []) h0 h1 ht hi hz hxt hni hlen hsrc (fun w2 _ => rfl) (by omega) (by simpa using hf)
        simp only [Nat.zero_add] at hnc hrun
        have hg := hR.new (o := .row xs e (.grown (m + 1))) (d := nc - (m + 1)) (x := .cells ⟨[] ++ xs' ++ lrep (nc - (m + 1)) z.cells.toList⟩ e)
          (w' := { w with drawn := w.drawn + 1, heap := w.heap.push (.cells ⟨[] ++ xs' ++ lrep (nc - (m + 1)) z.cells.toList⟩ e) }) rfl
          ⟨.inr rfl, rowR_grown (cs := xs') hxx hi (by rw [List.length_append, length_lrep, hxl', hzl', ← Nat.add_mul]) (unfrozen_zero _)⟩ rfl rfl rfl
        refine ⟨_, _, _, hrun, ?_, hg.1, hg.2⟩
        have := VR.slice (σ := ext σ A.next (w.heap.size, nc - (m + 1))) (i := A.next) (o := 0) (l := m + 1) (c := m + 1) (ext_self _ _)
        rw [show m + 1 + (nc - (m + 1)) = nc by omega] at this
        exact this
    | some a =>
      have h : (plainAt a fun b o => rowAt A.heap b fun c e' md => (match md with
        | .grown rc => appGrown A e i.size i.bytes b o len cap c e' rc m xs
        | .gro => none
        | md => appOwn A e i.size i.bytes b o len cap c e' md m xs)) = some (v, A') := h
      simp only [plainAt_some, rowAt_some] at h
      obtain ⟨ha, c, e', md, hg, h⟩ := h
      rw [ha] at hs
      obtain ⟨b, d, hsg, rfl⟩ := hs.slice_inv
      cases md with
      | own => exact appOwn_run hR h0 h1 ht hi hz hzl' hxt hni hlen hsrc hxx hxl hsg hg rfl h
      | ro => exact appOwn_run hR h0 h1 ht hi hz hzl' hxt hni hlen hsrc hxx hxl hsg hg rfl h
      | grown rc => exact appGrown_run hR h0 h1 ht hi hz hzl' hxt hni hlen hsrc hxx hxl hsg hg h
      | gro => cases h
  | _ => cases h
theorem copy_run (hR : Rel P σ A w) {t ty : TypeId} {ts : Array TypeId} {s s' d d' v : Value} {A' : AW} (h0 : ts[0]? = some t) (h : copyA P t A d s = some (v, A')) (hd : VR σ d d') (hs : VR σ s s') :
    Gives P σ A w ((Builtin.copy_ ts ty #[d', s']).run P w) v A' := by
  simp only [copyA, ob_some, sliceT_some] at h
  obtain ⟨e, ht, sz, hsz, m, hm, h⟩ := h
  have hlen := lenV_run (P := P) hm hs w
  cases d with
  | slice a len cap =>
    simp only [fnat_eq, ob_some] at h
    obtain ⟨xs, hxs, h⟩ := h
    have hmin : (Bool.rec len m (Nat.ble m len) : Nat) = Nat.min m len := by
      cases hb : Nat.ble m len with
      | true => have := bleIff.1 hb; show m = min m len; omega
      | false =>
        have : ¬ m ≤ len := fun hh => by rw [bleIff.2 hh] at hb; cases hb
        show len = min m len; omega
    rw [hmin] at hxs h
    obtain ⟨xs', hxx, hsrc⟩ := srcA_run hR hxs hs
    have ha0 : ∀ q : Value, (#[q, s'] : Array Value)[0]? = some q := fun _ => rfl
    have ha1 : ∀ q : Value, (#[q, s'] : Array Value)[1]? = some s' := fun _ => rfl
    cases a with
    | none =>
      have h : (ob (natV .i64 (Nat.min m len)) fun v => some (v, A)) = some (v, A') := h
      rw [natV_eq] at h
      cases h
      have hd' : d' = .slice none len cap := by cases hd with | flat e => rfl
      subst hd'
      refine ⟨_, σ, w, ?_, .flat rfl, hR, .refl hR.lim⟩
      simp only [Builtin.copy_, h0, ha0, ha1, Sem.run_bind, run_under ht, Result.andThen_ok, hlen, run_size hsz, hsrc w rfl, Sem.run_pure]
      rfl
    | some a =>
      have h : (plainAt a fun b o => rowAt A.heap b fun c e' md => bt md.writes (bt (lall oneK xs) (ob (lover xs o c) fun c' => ob (natV .i64 (Nat.min m len)) fun v => some (v, A.put b (.row c' e' md))))) = some (v, A') := h
      simp only [plainAt_some, rowAt_some, bt_some, ob_some, natV_eq, Option.some.injEq, Prod.mk.injEq] at h
      obtain ⟨ha, c, e', md, hg, hwr, h1c, c2, hc2, _, rfl, rfl, rfl⟩ := h
      rw [ha] at hd
      obtain ⟨b, dd, hsg, rfl⟩ := hd.slice_inv
      obtain ⟨c', fz, hw, hr⟩ := hR.row hsg hg hwr
      obtain ⟨hfit, hr2⟩ := hr.over hxx hc2
      obtain ⟨w', hst, q1, q2, q3, q4, q5, q6⟩ := cellsStored (P := P) (o := a.off) xs' 0 c' w hw (by simpa using hfit) (hxx.oneCells h1c) (hr.free hwr)
      simp only [Nat.add_zero] at q1
      obtain ⟨r1, r2⟩ := hR.upd (o2 := .row c2 e' md) hsg hg hwr q1 ⟨.inr rfl, hr2⟩ q2 q3 q4 q5 q6
      refine ⟨_, σ, w', ?_, .flat rfl, r1, r2⟩
      simp only [Builtin.copy_, h0, ha0, ha1, Sem.run_bind, run_under ht, Result.andThen_ok, hlen, run_size hsz, hsrc w rfl, hst, Sem.run_pure]
      rfl
  | _ => cases h
theorem byteV_some {v : Value} {b : UInt8} : byteV v = some b ↔ ∃ n : Nat, v = .int .u8 (.ofNat n) ∧ b = UInt8.ofNat n := by
  cases v <;> simp [byteV]
  rename_i k i; cases k <;> cases i <;> simp [eq_comm]
  exact ⟨fun h => ⟨_, rfl, h⟩, fun ⟨n, h1, h2⟩ => by have := Int.ofNat_inj.1 h1; subst this; exact h2⟩
theorem byteW_some {v : Value} {b : UInt8} (h : byteW v = some b) : v = .int .u8 (.ofNat b.toNat) := by
  unfold byteW at h
  split at h
  · simp only [bt_some, blt_iff, Option.some.injEq] at h
    obtain ⟨h1, rfl⟩ := h
    have e : (UInt8.ofNat _).toNat = _ := UInt8.toNat_ofNat_of_lt (show _ < UInt8.size from h1)
    rw [e]
  · cases h
theorem bytesW {l : List Value} {bs : List UInt8} (h : omap byteW l = some bs) : l = bs.map fun b => .int .u8 (.ofNat b.toNat) := by
  induction l generalizing bs with
  | nil => rw [omap_nil] at h; subst h; rfl
  | cons x l ih =>
    obtain ⟨y, ys, hy, hys, rfl⟩ := omap_cons.1 h
    rw [byteW_some hy, ih hys]; rfl
theorem bytesW_flats (bs : List UInt8) : flats (bs.map fun b => .int .u8 (.ofNat b.toNat)) = true := by
  unfold flats
  rw [lall_iff]
  intro x hx
  obtain ⟨b, _, rfl⟩ := List.mem_map.1 hx
  rfl
theorem bytes_flats {l : List Value} {bs : List UInt8} (h : omap byteV l = some bs) : flats l = true := by
  unfold flats
  rw [lall_iff]
  induction l generalizing bs with
  | nil => simp
  | cons x l ih =>
    obtain ⟨y, ys, hy, hys, rfl⟩ := omap_cons.1 h
    obtain ⟨n, rfl, rfl⟩ := byteV_some.1 hy
    intro v hv
    rcases List.mem_cons.1 hv with rfl | hv
    · rfl
    · exact ih hys v hv
theorem cellsOf_size {e : TypeId} {n : Nat} (h : sizeA P e = some n) : P.cellsOf e = n := by
  obtain ⟨i, hi, rfl⟩ := sizeA_some.1 h
  simp [Program.cellsOf, hi]
theorem shut_roomy (m : Md) : (shut m).roomy = m.roomy := by cases m <;> rfl
theorem shut_writes (m : Md) : (shut m).writes = false := by cases m <;> rfl
theorem us_types {ts : Array TypeId} {t : TypeId} (h : ts[0]? = some t) (ty : TypeId) (q : Option Addr) (k : Int) : Builtin.unsafeString_ ts ty #[.pointer q, .int .i64 k] = Builtin.unsafeString_ #[t, 0] ty #[.pointer q, .int .i64 k] := by
  unfold Builtin.unsafeString_
  rw [h]
  rfl
theorem unsafeString_run (hR : Rel P σ A w) {t ty : TypeId} {ts : Array TypeId} {p p' n n' v : Value} {A' : AW} (h0 : ts[0]? = some t) (h : unsafeStringA P t A p n = some (v, A')) (hp : VR σ p p') (hn : VR σ n n') :
    Gives P σ A w ((Builtin.unsafeString_ ts ty #[p', n']).run P w) v A' := by
  simp only [unsafeStringA, ob_some, bt_some, ptrT_some, i64V_some, blt_iff] at h
  obtain ⟨u, ht, k, rfl, hk, h⟩ := h
  obtain rfl := hn.of_flat rfl
  have hmax : IntKind.i64.max = 9223372036854775807 := rfl
  have hpos : ¬ (Int.ofNat k < 0) := by simp
  have hle : ¬ (Int.ofNat k > 9223372036854775807) := by simp; omega
  cases p with
  | pointer a =>
    cases k with
    | zero =>
      have h : some (mkStr [], A) = some (v, A') := h
      cases h
      refine ⟨.string .empty, σ, w, ?_, .flat rfl, hR, .refl hR.lim⟩
      have hp' : ∃ q, p' = .pointer q := by cases hp with
        | flat e => exact ⟨_, rfl⟩
        | ptr e => exact ⟨_, rfl⟩
      obtain ⟨q, rfl⟩ := hp'
      exact (congrArg (fun s => s.run P w) (us_types h0 ty q 0)).trans (Go.Lib.run_unsafeString_none w t 0 ty q)
    | succ k =>
      have h : (ob a fun a => plainAt a fun b o => bt (Nat.beq o 0) (rowAt A.heap b fun c e md => bt md.writes (bt (Nat.beq e u) (ob (sizeA P e) fun sz => bt (Nat.beq sz 1)
        (ob (ltake (k + 1) c) fun l => ob (omap byteW l) fun bs => some (mkStr bs, A.put b (.row c e (shut md)))))))) = some (v, A') := h
      simp only [ob_some, plainAt_some, bt_some, beqIff, rowAt_some, Option.some.injEq, Prod.mk.injEq] at h
      obtain ⟨a, rfl, ha, ho, c, e, md, hg, hwr, rfl, sz, hsz, rfl, l, hl, bs, hbs, rfl, rfl⟩ := h
      rw [ha, ho] at hp
      obtain ⟨b, d, hsg, rfl⟩ := hp.ptr_inv
      obtain ⟨c', fz, hw, hr⟩ := hR.row hsg hg hwr
      obtain ⟨rfl, hlen⟩ := ltake_some _ _ _ hl
      obtain ⟨cs, y, ec, hc, hx⟩ := hr.cells
      have hcl := hc.length
      have hsame : cs.take (k + 1) = c.take (k + 1) := (hc.take (k + 1)).of_flats (by rw [bytesW hbs]; exact bytesW_flats bs)
      have hsz2 : c'.size = cs.length + y.length := by have := congrArg List.length ec; simpa using this
      have hll : (c.take (k + 1)).length = k + 1 := by simp; omega
      have hcel := cellsOf_size hsz
      have hlt := (Array.getElem?_eq_some_iff.1 hw).1
      have hmod : (w.freeze ⟨b, 0, none⟩ (k + 1)).heap[b]? = some (.cells c' e (if fz.1 == fz.2 then (0, 0 + (k + 1)) else (min fz.1 0, max fz.2 (0 + (k + 1))))) := by
        obtain ⟨lo, hi⟩ := fz
        simp [World.freeze, Array.getElem?_modify, hw]
      obtain ⟨q1, q2⟩ := hR.upd (w' := w.freeze ⟨b, 0, none⟩ (k + 1)) (o2 := .row c e (shut md)) hsg hg hwr hmod
        ⟨.inr rfl, ⟨⟨cs, y, ec, hc, by rw [shut_roomy]; exact hx⟩, by rw [shut_roomy]; exact hr.exact_, fun rc hh => (by cases md <;> cases hh), by rw [shut_writes]; intro hh; cases hh⟩⟩
        (fun j hj => by simp [World.freeze, Array.getElem?_modify, Ne.symm hj]) (by simp [World.freeze]) (by simp [World.freeze]) (by simp [World.freeze]) (by simp [World.freeze])
      refine ⟨.string ⟨⟨bs⟩⟩, σ, _, ?_, .flat rfl, q1, q2⟩
      have hshape : w.shape? b = some (e, c'.size) := shape_of hw
      have hbl : bs.length = k + 1 := by have := congrArg List.length (bytesW hbs); rw [hll] at this; simpa using this.symm
      have hus := Go.Lib.run_unsafeString_row (P := P) w t 0 ty e ht hcel b c'.size hshape bs (by intro hh; rw [hh] at hbl; cases hbl) (by omega) (by omega) (fun j x hj => by
        rw [add_plain, Nat.zero_add]
        have hcj : (c.take (k + 1))[j]? = some (.int .u8 (.ofNat x.toNat)) := by rw [bytesW hbs, List.getElem?_map, hj]; rfl
        refine cell_of hw ?_
        have hjl : j < k + 1 := by rw [← hbl]; exact (List.getElem?_eq_some_iff.1 hj).1
        rw [← Array.getElem?_toList, ec, List.getElem?_append_left (by omega)]
        rw [← hsame, List.getElem?_take, if_pos hjl] at hcj
        exact hcj)
      rw [hbl] at hus
      exact (congrArg (fun s => s.run P w) (us_types h0 ty _ _)).trans hus
  | _ => cases h
end Go.Ev
end

/- The evaluator: conversions of strings; every loud operation does what the model does. -/
section
set_option linter.unusedSectionVars false
namespace Go.Ev
variable {P : Program} {σ σ' : Sg} {A : AW} {w w' : World} [Frozen P]
theorem u8D_eq {d : TypeDesc} (h : u8D d = true) : d = .int .u8 := by
  cases d <;> try (cases h; done)
  rename_i k; cases k <;> first | rfl | (cases h)
theorem strD_eq {d : TypeDesc} (h : strD d = true) : d = .string := by cases d <;> first | rfl | (cases h)
theorem toBytes_run (hR : Rel P σ A w) {src dst e : TypeId} {x x' v : Value} {A' : AW} (hsd : P.underlying src = some .string) (hdd : P.underlying dst = some (.slice e)) (h : toBytes P A e x = some (v, A')) (hx : VR σ x x') :
    Gives P σ A w ((convert src dst x').run P w) v A' := by
  simp only [toBytes, ob_some, bt_some, beqIff, strV_some, fnat_eq, newSlice, Option.some.injEq, Prod.mk.injEq] at h
  obtain ⟨d, hd, hu, sz, hsz, rfl, s, rfl, rfl, rfl⟩ := h
  obtain rfl := u8D_eq hu
  obtain rfl := hx.of_flat rfl
  obtain ⟨i, hi, his⟩ := sizeA_some.1 hsz
  let cap := (Question.appendCap s.length 0 e).cut (w.tape w.drawn (.appendCap s.length 0 e))
  have hcap : s.length ≤ cap := Nat.le_add_right _ _
  let row : List Value := s.map byteOf' ++ List.replicate (cap - s.length) (.int .u8 0)
  have hrl : row.length = cap := by simp [row]; omega
  have hg := hR.new (o := .row (s.map byteOf') e (.grown s.length)) (d := cap - s.length) (x := .cells ⟨row⟩ e (cap, cap + 1))
    (w' := { w with drawn := w.drawn + 1, heap := w.heap.push (.cells ⟨row⟩ e (cap, cap + 1)) }) rfl
    ⟨.inr rfl, rowR_grown (cs := s.map byteOf') (x := List.replicate (cap - s.length) (.int .u8 0)) (.bytes _) hi (by rw [his]; show row.length = _; rw [hrl]; omega) (by intro o ho hh; have : row.length = cap := hrl; simp only [row] at this; omega)⟩ rfl rfl rfl
  refine ⟨.slice (some ⟨w.heap.size, 0, none⟩) s.length cap, _, _, ?_, ?_, hg.1, hg.2⟩
  · have hch : (choose (.appendCap s.length 0 e)).run P w = .ok cap { w with drawn := w.drawn + 1 } := by simp [choose, Sem.run, Question.forced, cap]
    have hss : (⟨⟨s⟩⟩ : ByteArray).size = s.length := rfl
    simp only [convert, Sem.run_bind, run_under hsd, run_under hdd, Result.andThen_ok, mkStr, run_under hd, Conv.stringToBytes, hss, hch, run_newRow, Sem.run_pure]
    have hrow : ((⟨⟨s⟩⟩ : ByteArray).data.map (fun b => Value.int .u8 b.toNat) ++ Array.replicate (cap - s.length) (Value.int .u8 0)) = ⟨row⟩ := by
      apply Array.toList_inj.1
      simp [row, byteOf']
    simp only [hrow]
    simp [markStringish, shape, freeze, Sem.run, World.shape?, World.freeze, hrl]
    apply Array.ext_getElem?
    intro q
    rw [Array.getElem?_modify]
    by_cases hq : w.heap.size = q
    · subst hq; simp
    · simp [hq, Array.getElem?_push, Ne.symm hq]
  · have := VR.slice (σ := ext σ A.next (w.heap.size, cap - s.length)) (i := A.next) (o := 0) (l := s.length) (c := s.length) (ext_self _ _)
    rw [show s.length + (cap - s.length) = cap by omega] at this
    exact this
theorem pushBytes_run (f : Value → ByteArray → Sem (ForInStep ByteArray)) (hf : ∀ (n : Nat) s, f (.int .u8 (.ofNat n)) s = pure (.yield (s.push (UInt8.ofNat n)))) : ∀ (l : List Value) (bs : List UInt8) (acc : ByteArray) (w : World), omap byteV l = some bs →
    (forIn l acc f).run P w = .ok ⟨acc.data ++ bs.toArray⟩ w := by
  intro l
  induction l with
  | nil => intro bs acc w h; rw [omap_nil] at h; subst h; simp
  | cons x l ih =>
    intro bs acc w h
    obtain ⟨y, ys, hy, hys, rfl⟩ := omap_cons.1 h
    obtain ⟨n, rfl, rfl⟩ := byteV_some.1 hy
    rw [List.forIn_cons, hf]
    have := ih ys (acc.push (UInt8.ofNat n)) w hys
    simp only [Sem.run_bind, Sem.run_pure, Result.andThen_ok]
    rw [this]
    congr 1
    apply ByteArray.ext
    simp [ByteArray.push]
theorem toStr_run (hR : Rel P σ A w) {src dst e : TypeId} {x x' v : Value} {A' : AW} (hsd : P.underlying src = some (.slice e)) (hdd : P.underlying dst = some .string) (h : toStr P A e x = some (v, A')) (hx : VR σ x x') :
    Gives P σ A w ((convert src dst x').run P w) v A' := by
  simp only [toStr, ob_some, bt_some] at h
  obtain ⟨d, hd, hu, h⟩ := h
  obtain rfl := u8D_eq hu
  cases x with
  | slice a len cap =>
    simp only [ob_some, Option.some.injEq, Prod.mk.injEq] at h
    obtain ⟨l, hl, bs, hbs, rfl, rfl⟩ := h
    obtain ⟨l', hll, hsrc⟩ := srcA_run hR hl hx
    have hsame := hll.of_flats (bytes_flats hbs)
    subst hsame
    refine ⟨mkStr bs, σ, w, ?_, .flat rfl, hR, .refl hR.lim⟩
    have hx' : ∃ a' cap', x' = .slice a' len cap' := by cases hx with
      | flat e => exact ⟨_, _, rfl⟩
      | slice e => exact ⟨_, _, rfl⟩
    obtain ⟨a', cap', rfl⟩ := hx'
    simp only [convert, Sem.run_bind, run_under hsd, run_under hdd, Result.andThen_ok, run_under hd, Conv.bytesToString]
    have hs2 := hsrc w rfl
    cases a' with
    | none =>
      have : (pure #[] : Sem (Array Value)).run P w = .ok ⟨l'⟩ w := hs2
      have hl0 : l' = [] := by
        simp only [Sem.run_pure, Result.ok.injEq] at this
        have := congrArg Array.toList this.1
        simpa using this.symm
      subst hl0
      rw [omap_nil] at hbs; subst hbs
      rfl
    | some a' =>
      have hs2 : (loadCells a' (len * 1)).run P w = .ok ⟨l'⟩ w := hs2
      rw [Nat.mul_one] at hs2
      simp only [Sem.run_bind, hs2, Result.andThen_ok]
      rw [← Array.forIn_toList, pushBytes_run _ (fun _ _ => rfl) l' bs .empty w hbs]
      simp only [Result.andThen_ok, Sem.run_pure]
      congr 2
      apply ByteArray.ext
      simp
  | _ => cases h
theorem convA_run (hR : Rel P σ A w) {src dst : TypeId} {x x' v : Value} {A' : AW} (h : convA P src dst A x = some (v, A')) (hx : VR σ x x') : Gives P σ A w ((convert src dst x').run P w) v A' := by
  simp only [convA, ob_some] at h
  obtain ⟨sd, hsd, dd, hdd, h⟩ := h
  split at h
  · simp only [bt_some] at h
    obtain ⟨hs, h⟩ := h
    obtain rfl := strD_eq hs
    exact toBytes_run hR hsd hdd h hx
  · split at h
    · exact toStr_run hR hsd hdd h hx
    · simp only [ob_some, strV_some, Option.some.injEq, Prod.mk.injEq] at h
      obtain ⟨s, rfl, rfl, rfl⟩ := h
      obtain rfl := hx.of_flat rfl
      refine ⟨_, σ, w, ?_, .flat rfl, hR, .refl hR.lim⟩
      simp only [convert, Sem.run_bind, run_under hsd, run_under hdd, Result.andThen_ok, mkStr]
      rfl
    · cases h
  · cases h
theorem evE_sound (hR : Rel P σ A w) {o : Oper} {a : Act} {F : T Value} {f : Fx} (hO : OK P σ F a o.op.operands.toList) (h : evE o.op P F A = some f) : Fine P σ A w ((execOp a.eval o).run P w) f := by
  obtain ⟨dst, op, ty, pos, after, guard⟩ := o
  cases op <;> simp only [evE] at h <;> try (cases h; done)
  case alloc e =>
    simp only [eAlloc, newPtr, ob_some, Option.some.injEq] at h
    obtain ⟨z, hz, rfl⟩ := h
    exact (alloc_run hR hz).fine
  case box e x =>
    simp only [eBox, newPtr, ob_some, bt_some, Option.some.injEq] at h
    obtain ⟨v, hv, hk, rfl⟩ := h
    exact (box_run hR (hO x (by simp [Op.operands]) v hv) hk).fine
  case buildSlice t n ps =>
    simp only [eBuildSlice, ob_some, fxv_some] at h
    obtain ⟨vs, hvs, v, A', h, rfl⟩ := h
    obtain ⟨ps⟩ := ps
    have hp := parts_run (a := a) (fun x hx => hO x (by simpa [Op.operands] using hx)) hvs
    have := (buildSlice_run hR h hp).fine
    simpa only [execOp, map_pairs] using this
  case store t x y =>
    simp only [eStore, ob_some, fxu_some] at h
    obtain ⟨p, hp, v, hv, A', h, rfl⟩ := h
    exact (store_run hR h (hO x (by simp [Op.operands]) p hp) (hO y (by simp [Op.operands]) v hv)).fine
  case insert t m k v =>
    simp only [eUpdate, ob_some, fxu_some] at h
    obtain ⟨m', hm, k', hk, v', hv, A', h, rfl⟩ := h
    exact (mapUpdate_run hR h (hO m (by simp [Op.operands]) _ hm) (hO k (by simp [Op.operands]) _ hk) (hO v (by simp [Op.operands]) _ hv)).fine
  case mapUpdate t m k v =>
    simp only [eUpdate, ob_some, fxu_some] at h
    obtain ⟨m', hm, k', hk, v', hv, A', h, rfl⟩ := h
    exact (mapUpdate_run hR h (hO m (by simp [Op.operands]) _ hm) (hO k (by simp [Op.operands]) _ hk) (hO v (by simp [Op.operands]) _ hv)).fine
  case makeMap t r =>
    cases r with
    | none =>
      have h : some (Fx.val (.map (some A.next)) (A.add (.map [] 0))) = some f := h
      cases h
      exact (makeMap_run hR (t := t) (r := none) (fun v hv => by cases hv)).fine
    | some x =>
      have h : (ob (mapT P t) fun _ => ob (opnd P F x) fun v => ob (numV v) fun _ => some (Fx.val (.map (some A.next)) (A.add (.map [] 0)))) = some f := h
      simp only [ob_some, mapT_some, numV_some, Option.some.injEq] at h
      obtain ⟨q, hq, v, hv, n, ⟨k, rfl⟩, rfl⟩ := h
      have hx := (hO x (by simp [Op.operands]) _ hv).of_flat rfl
      have := (makeMap_run hR (t := t) (r := some (.int k (.ofNat n))) (fun v hv => by cases hv; exact ⟨⟨k, n, rfl⟩, q, hq⟩)).fine
      simpa only [execOp, Option.map, hx] using this
  case makeSlice t l c =>
    simp only [eMakeSlice, ob_some, fxv_some] at h
    obtain ⟨l', hl, c', hc, v, A', h, rfl⟩ := h
    exact (makeSlice_run hR h (hO l (by simp [Op.operands]) _ hl) (hO c (by simp [Op.operands]) _ hc)).fine
  case convert s d x =>
    simp only [eConv, ob_some, fxv_some] at h
    obtain ⟨u, hu, v, A', h, rfl⟩ := h
    exact (convA_run hR h (hO x (by simp [Op.operands]) _ hu)).fine
  case defer c =>
    obtain ⟨cal, ⟨args⟩, ats⟩ := c
    cases cal with
    | value g =>
      have h : (ob (opnds P F args) fun args => ob (opnd P F g) fun v => match v with
        | .func fn first cap => some (Fx.defr { target := .fn fn cap, args := ⟨first.toList ++ args⟩ } A)
        | _ => none) = some f := h
      simp only [ob_some] at h
      obtain ⟨vs, hvs, u, hu, h⟩ := h
      have hargs := opnds_run (a := a) (fun x hx => hO x (by simp [Op.operands, Call.operands]; exact .inr hx)) hvs
      have hf := hO g (by simp [Op.operands, Call.operands]) u hu
      split at h
      · rename_i fn first cap
        cases h
        obtain ⟨first⟩ := first
        obtain ⟨cap⟩ := cap
        cases hE : a.eval g <;> rw [hE] at hf <;> cases hf
        · rename_i e1; simp [flat] at e1
        · rename_i f' c' hff hcc
          refine ⟨rfl, fn, cap, c', first ++ vs, f' ++ args.map a.eval, rfl, hcc, hff.append hargs, ?_⟩
          simp only [execOp, resolve, hE, Deferred.ofValue, Sem.run_bind, Sem.run_pure, Result.andThen_ok, map_ops]
          simp
      · cases h
    | _ => cases h
  case call c =>
    obtain ⟨cal, ⟨args⟩, ats⟩ := c
    cases cal with
    | value g =>
      have h : (ob (opnds P F args) fun args => ob (opnd P F g) fun v => match v with
        | .func (.func f) first cap => some (Fx.enter f ((first.toList ++ args) ++ cap.toList) A)
        | _ => none) = some f := h
      simp only [ob_some] at h
      obtain ⟨vs, hvs, u, hu, h⟩ := h
      have hargs := opnds_run (a := a) (fun x hx => hO x (by simp [Op.operands, Call.operands]; exact .inr hx)) hvs
      have hf := hO g (by simp [Op.operands, Call.operands]) u hu
      split at h
      · rename_i fn first cap
        cases h
        obtain ⟨first⟩ := first
        obtain ⟨cap⟩ := cap
        cases hE : a.eval g <;> rw [hE] at hf <;> cases hf
        · rename_i e1; simp [flat] at e1
        · rename_i f' c' hff hcc
          refine ⟨rfl, (f' ++ args.map a.eval) ++ c', (hff.append hargs).append hcc, ?_⟩
          simp only [execOp, resolve, hE, Deferred.ofValue, Sem.run_bind, Sem.run_pure, Result.andThen_ok, map_ops, invoke]
          simp
      · cases h
    | invoke r m => cases h
    | builtin b =>
      have two : ∀ (g : Program → TypeId → Option TypeId → AW → Value → Value → Option Fx), eTwo g ⟨.builtin b, ⟨args⟩, ats⟩ P F A = some f → ∃ x y t u v, args = [x, y] ∧ ats[0]? = some t ∧ VR σ u (a.eval x) ∧ VR σ v (a.eval y) ∧ g P t ats[1]? A u v = some f := by
        intro g hq
        unfold eTwo at hq
        split at hq
        · rename_i x y hxy
          simp only at hxy
          simp only [ob_some, lget_eq] at hq
          obtain ⟨t, ht, u, hu, v, hv, hq⟩ := hq
          subst hxy
          refine ⟨x, y, t, u, v, rfl, by rw [← Array.getElem?_toList]; exact ht, hO x (by simp [Op.operands, Call.operands]) u hu, hO y (by simp [Op.operands, Call.operands]) v hv, by rw [← Array.getElem?_toList]; exact hq⟩
        · cases hq
      have key : ∀ (s : Sem Value) v A', f = .val v A' → (∀ cs, builtin b ats ty cs ⟨args.map a.eval⟩ = (do pure (.value (← s)))) → Gives P σ A w (s.run P w) v A' →
          Fine P σ A w ((execOp a.eval ⟨dst, .call ⟨.builtin b, ⟨args⟩, ats⟩, ty, pos, after, guard⟩).run P w) f := by
        intro s v A' hf he hg
        subst hf
        have := hg.fine
        simp only [execOp, resolve, Sem.run_bind, Sem.run_pure, Result.andThen_ok, invoke]
        rw [map_ops, he]
        exact this
      cases b <;> simp only [eCall, eBuiltin] at h <;> try (cases h; done)
      case append =>
        obtain ⟨x, y, t, u, v, rfl, ht, hx, hy, hq⟩ := two _ h
        simp only [gAppend, fxv_some] at hq
        obtain ⟨r, A', hq, rfl⟩ := hq
        exact key _ _ _ rfl (fun _ => rfl) (append_run hR ht rfl hq hx hy)
      case copy =>
        obtain ⟨x, y, t, u, v, rfl, ht, hx, hy, hq⟩ := two _ h
        simp only [gCopy, fxv_some] at hq
        obtain ⟨r, A', hq, rfl⟩ := hq
        exact key _ _ _ rfl (fun _ => rfl) (copy_run hR ht hq hx hy)
      case delete =>
        obtain ⟨x, y, t, u, v, rfl, ht, hx, hy, hq⟩ := two _ h
        simp only [gDelete, fxu_some] at hq
        obtain ⟨A', hq, rfl⟩ := hq
        obtain ⟨⟨⟩⟩ := ats
        · simp at ht
        · rename_i t0 ts
          have : t0 = t := by simpa using ht
          subst this
          exact key _ _ _ rfl (fun _ => rfl) (delete_run hR hq hx hy)
      case unsafeString =>
        obtain ⟨x, y, t, u, v, rfl, ht, hx, hy, hq⟩ := two _ h
        simp only [gString, fxv_some] at hq
        obtain ⟨r, A', hq, rfl⟩ := hq
        exact key _ _ _ rfl (fun _ => rfl) (unsafeString_run hR ht hq hx hy)
end Go.Ev
end
