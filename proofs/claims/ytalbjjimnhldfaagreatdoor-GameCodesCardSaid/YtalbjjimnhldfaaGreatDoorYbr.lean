/- From what came in to what the evaluator is told of. -/
import Derived.Test.YtalbjjimnhldfaaGreatDoorEv17
import Derived.Test.YtalbjjimnhldfaaGreatDoorBase
import Derived.Test.YtalbjjimnhldfaaGreatDoorGlob
set_option maxRecDepth 100000
namespace Go.Proofs.YtalbjjimnhldfaaGreatDoor
open Go.RowKit Go.Ev
theorem rowAt_le {P : Program} {ft : TypeId → Bool} {d : Nat} {e : TypeId} {count off n : Nat} (h : Go.rowAt P ft d e count off n = true) : off ≤ count * P.cellsOf e := by
  cases d with
  | zero => cases h
  | succ d =>
    unfold Go.rowAt at h
    by_cases hs : P.cellsOf e = 0
    · simp [hs] at h
    · simp only [hs, if_false, Bool.or_eq_true, Bool.and_eq_true, beq_iff_eq, decide_eq_true_eq] at h
      have hd := Nat.div_add_mod off (P.cellsOf e)
      have hm := Nat.mod_lt off (Nat.pos_of_ne_zero hs)
      rcases h with ⟨⟨h1, h2⟩, _⟩ | ⟨h1, _⟩
      · have := Nat.mul_le_mul_right (P.cellsOf e) (show off / P.cellsOf e ≤ count by omega)
        rw [Nat.mul_comm] at hd
        omega
      · have := Nat.mul_le_mul_right (P.cellsOf e) (show off / P.cellsOf e + 1 ≤ count by omega)
        rw [Nat.add_mul, Nat.one_mul] at this
        rw [Nat.mul_comm] at hd
        omega
theorem liesAt_le {P : Program} {e : TypeId} {count off : Nat} : ∀ {d : Nat} {u : TypeId} {n : Nat}, liesAt P d e count off u n = true → off ≤ count * P.cellsOf e := by
  intro d
  induction d with
  | zero => intro u n h; cases h
  | succ d ih =>
    intro u n h
    unfold liesAt at h
    rw [Bool.or_eq_true] at h
    rcases h with h | h
    · exact rowAt_le h
    · split at h
      · exact ih h
      · cases h
theorem slice_has {P : Program} {w : World} {r : Reach} {base : Nat} {t e : TypeId} {a : Addr} {len cap : Nat} (ht : P.underlying t = some (.slice e)) (h : Cell.okWide P w r base t (.slice (some a) len cap)) : a.spot = none ∧ ∃ cs ty fz, w.heap[a.block]? = some (.cells cs ty fz) ∧ a.off ≤ cs.size := by
  unfold Cell.okWide at h
  rw [ht] at h
  have h : Cell.ok P w r base t (.slice (some a) len cap) := h
  unfold Cell.ok at h
  rw [ht] at h
  obtain ⟨_, _, _, h1, row, cells, h2, h3⟩ := h
  refine ⟨h1, ?_⟩
  unfold World.shape? at h2
  split at h2
  · rename_i c el fz hq
    cases h2
    refine ⟨c, _, _, hq, Nat.le_trans (liesAt_le h3) (Nat.div_mul_le_self _ _)⟩
  · cases h2
theorem cell_row {w : World} {b i : Nat} {v : Value} {cs : Array Value} {ty : TypeId} {fz : Nat × Nat} (h : w.cell? ⟨b, i, none⟩ = some v) (hb : w.heap[b]? = some (.cells cs ty fz)) : cs.toList[i]? = some v := by
  unfold World.cell? at h
  rw [hb] at h
  simpa using h
theorem sli_in {α : Type} {f : α → Value} (hf : ∀ x, Ev.flat (f x) = true) {sz : Nat} {w : World} {A : Option Addr} {n c : Nat} {xs : List α} (hlen : xs.length = n * sz) (hat : 0 < n → ∃ b off, A = some ⟨b, off, none⟩ ∧ b < w.heap.size ∧ ∀ i x, xs[i]? = some x → w.cell? ⟨b, off + i, none⟩ = some (f x))
    (hA : A = none → c = 0) (hc : n ≤ c) (hz : 0 < sz) (hh : ∀ a, A = some a → a.spot = none ∧ ∃ cs ty fz, w.heap[a.block]? = some (.cells cs ty fz) ∧ a.off ≤ cs.size) :
    ∃ (nb : Bool) (o : Nat) (cl : List Value) (blk : Option Nat), Sli f sz nb o n c cl xs ∧ (∀ b, blk = some b → ∃ cs ty fz, w.heap[b]? = some (.cells cs ty fz) ∧ ∀ σ, VRL σ cl cs.toList) ∧ ∀ σ i, σ i = blk.map (fun b => (b, 0)) → VR σ (mnS i nb o n c) (.slice A n c) := by
  cases A with
  | none =>
    have hc0 := hA rfl
    have hn0 : n = 0 := by omega
    subst hc0 hn0
    have hx : xs = [] := List.eq_nil_of_length_eq_zero (by omega)
    subst hx
    exact ⟨true, 0, [], none, .none, (fun b h => by cases h), fun σ i _ => .mnil rfl rfl rfl⟩
  | some a =>
    obtain ⟨hsp, cs, ty, fz, hbk, hoff⟩ := hh a rfl
    obtain ⟨b, off, sp⟩ := a
    have hsp : sp = none := hsp
    subst hsp
    have hbk : w.heap[b]? = some (.cells cs ty fz) := hbk
    have hoff : off ≤ cs.size := hoff
    have cellAt : ∀ i x, xs[i]? = some x → cs.toList[off + i]? = some (f x) := fun i x hx => by
      have hi : i < xs.length := (List.getElem?_eq_some_iff.1 hx).1
      have hn : 0 < n := by
        rcases Nat.eq_zero_or_pos n with e | e
        · rw [e, Nat.zero_mul] at hlen; omega
        · exact e
      obtain ⟨b', off', e1, _, h2⟩ := hat hn
      cases e1
      exact cell_row (h2 i x hx) hbk
    have hfl : ∀ i v, i < n * sz → cs.toList[off + i]? = some v → Ev.flat v = true := fun i v hi hv => by
      have hi' : i < xs.length := by omega
      have := cellAt i _ (List.getElem?_eq_getElem hi')
      rw [this] at hv; cases hv; exact hf _
    have hfit : off + n * sz ≤ cs.toList.length := by
      rcases Nat.eq_zero_or_pos (n * sz) with e | e
      · rw [e]; simpa using hoff
      · have hi' : n * sz - 1 < xs.length := by omega
        have := (List.getElem?_eq_some_iff.1 (cellAt (n * sz - 1) _ (List.getElem?_eq_getElem hi'))).1
        omega
    refine ⟨false, off, wnd off (n * sz) cs.toList, some b, ⟨fun i x hx => ?_, hlen, (fun h => by cases h), fun _ => by rw [wnd_length]; exact hfit, hc, wnd_flat _ _ _ hfl⟩, fun b' hb' => ?_, fun σ i hi => ?_⟩
    · have hi : i < xs.length := (List.getElem?_eq_some_iff.1 hx).1
      left
      rw [wnd_get _ _ _ _ (by omega)]; exact cellAt i x hx
    · cases hb'; exact ⟨cs, ty, fz, hbk, fun σ => wnd_vr _ _ _ hfl⟩
    · exact .mn (d := 0) rfl hi
theorem glob_ro : ∀ j o, (putAll G0 .e).get j = some o → mayW o = false := fun j o hj => by
  have hro : roB 12 G0 = true := by kernel_rfl
  have ho : onceB G0 = true := by kernel_rfl
  obtain ⟨k1, k2⟩ := putAll_get j G0 .e ho
  cases hk : keyB j G0 with
  | false => rw [k2 hk] at hj; cases hj
  | true =>
    obtain ⟨o', ho'⟩ := keyB_iff.1 hk
    rw [k1 o' ho'] at hj; cases hj
    have := List.all_eq_true.1 hro (j, _) ho'
    simp only [Bool.and_eq_true] at this
    obtain ⟨c, e, rfl, _⟩ := roO_some this.2
    rfl
theorem flat_join : ∀ {ds : List (List Int)}, (∀ d ∈ ds, Dig d) → ds.flatten.length = ds.length * 8 := by
  intro ds
  induction ds with
  | nil => intro _; rfl
  | cons d ds ih => intro h; rw [List.flatten_cons, List.length_append, ih (fun x hx => h x (by simp [hx])), (h d (by simp)).1, List.length_cons]; omega
theorem flat_dig : ∀ {ds : List (List Int)}, (∀ d ∈ ds, Dig d) → ∀ i x, ds.flatten[i]? = some x → ∃ d, ds[i / 8]? = some d ∧ d[i % 8]? = some x := by
  intro ds
  induction ds with
  | nil => intro _ i x h; simp at h
  | cons d ds ih =>
    intro h i x hx
    have hd := (h d (by simp)).1
    rw [List.flatten_cons] at hx
    by_cases hi : i < 8
    · rw [List.getElem?_append_left (by omega)] at hx
      exact ⟨d, by rw [show i / 8 = 0 by omega]; rfl, by rw [show i % 8 = i by omega]; exact hx⟩
    · rw [List.getElem?_append_right (by omega), hd] at hx
      obtain ⟨d', h1, h2⟩ := ih (fun x hx => h x (by simp [hx])) (i - 8) x hx
      refine ⟨d', ?_, ?_⟩
      · rw [show i / 8 = (i - 8) / 8 + 1 by omega]; exact h1
      · rw [show i % 8 = (i - 8) % 8 by omega]; exact h2
theorem wfS {x : Int} (h : (Lit.int .i64 x).wf = true) : -9223372036854775808 ≤ x ∧ x ≤ 9223372036854775807 := by
  simp only [Lit.wf, Bool.and_eq_true, decide_eq_true_eq] at h
  exact h
theorem wfU {x : Int} (h : (Lit.int .u64 x).wf = true) : 0 ≤ x ∧ x < 18446744073709551616 := by
  simp only [Lit.wf, Bool.and_eq_true, decide_eq_true_eq] at h
  have h : (0 : Int) ≤ x ∧ x ≤ 18446744073709551615 := h
  omega
end Go.Proofs.YtalbjjimnhldfaaGreatDoor
